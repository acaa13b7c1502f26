/-
  Part 8 of the proof: rules and walks that the claim's last text uses.
-/
import Derived.Test.YtgpmlelfkjfbiaaGreatDoorSd7
set_option linter.unusedSimpArgs false
set_option linter.unusedVariables false
set_option maxRecDepth 100000
set_option maxHeartbeats 4000000
namespace Go.Proofs.YtgpmlelfkjfbiaaGreatDoor
open Go Go.RowKit Go.Ev
theorem Zcp {t:Ty} {v:Vl} (h:((t.words.any fun x=>Dz x v.text)||(decide ((t.words.length:Int)=0)&&WE t v.text.size))=true):GY v.text t=true:=by
 rw [GY]
 by_cases q:t.words=[]
 ·rw [if_pos q]
  rw [q,List.any_nil,Bool.false_or,Bool.and_eq_true] at h
  exact h.2
 ·rw [if_neg q]
  have a:0<t.words.length:=List.length_pos_iff.2 q
  rw [decide_eq_false (show ¬ (t.words.length:Int)=0 by omega),Bool.false_and,Bool.or_false] at h
  exact h
theorem Z3 {t:Ty} {p:TF} (hp:p∈t.fields):(Bj t p.2.1).isSome=true:=by
 rw [Bj,List.find?_isSome]
 exact ⟨p,hp,HD _⟩
theorem QY:∀ (d e:Nat) (t:Ty) (x:Vl),t.Good→x.Good→t.depth≤e→KH d t x=true→WI e t x
 | 0,e,t,x,_,_,_,h=>by simp [KH] at h
 | d+1,0,t,x,_,_,hd,_=>by have:=t.depth_eq;omega
 | d+1,e+1,t,x,gt,gx,hd,h=>by
  have o:=gt.own
  have k:=Z6 (J4 gx)
  have v:=o.kind
  rw [KH] at h
  by_cases hk:t.kind=x.kind
  rotate_left
  ·rw [if_pos hk] at h;cases h
  rw [if_neg (fun q=>q hk)] at h
  have i:=Oy v hk.symm k
  by_cases k2:t.kind=2∨t.kind=6∨t.kind=7
  ·rw [if_pos k2] at h
   exact Gy (by omega) (by omega) (by omega) (by rw [EI,if_neg i,if_pos k2];exact h)
  rw [if_neg k2] at h
  by_cases k3:t.kind=3
  ·rw [if_pos k3] at h
   exact Gy (by omega) (by omega) (by omega) (by rw [EI,if_neg i,if_neg k2,if_pos k3];exact h)
  rw [if_neg k3] at h
  by_cases k4:t.kind=4
  ·rw [if_pos k4] at h
   exact Gy (by omega) (by omega) (by omega) (by rw [EI,if_neg i,if_neg k2,if_neg k3,if_pos k4];exact Zcp h)
  rw [if_neg k4] at h
  by_cases k5:t.kind=5
  ·rw [if_pos k5] at h
   exact Gy (by omega) (by omega) (by omega) (by rw [EI,if_neg i,if_neg k2,if_neg k3,if_neg k4,if_pos k5];exact h)
  rw [if_neg k5] at h
  by_cases k8:t.kind=8
  ·rw [if_pos k8,Bool.and_eq_true,List.all_eq_true] at h
   obtain ⟨y,m⟩:=o.elem k8
   have b:y∈t.elem:=by rw [m];simp
   refine Wa k8 (by omega) k m h.2 fun u s=>?_
   have g:=h.1 u s
   rw [List.all_eq_true] at g
   exact QY d e y u (Gt gt b) (HZ gx (by rw [Bt,if_pos (.inl (by omega))];exact s)) (by have:=Ty.depth_elem b;omega) (g y b)
  rw [if_neg k8] at h
  by_cases k10:t.kind=10
  ·rw [if_pos k10] at h
   obtain ⟨z,f⟩:=Wn gx (by omega)
   cases c:Bj t x.text with
   | none=>rw [c] at h;cases h
   | some p =>
    rw [c,f] at h
    have a:=(DN c).1
    have h:KH d p.2.2.2.1 z=true:=by simpa using h
    exact VJ k10 (by omega) k c f (QY d e _ z (Bv gt a) (HZ gx (by rw [Bt,if_pos (.inr (by omega)),f];simp)) (by have:=Ty.depth_field a;omega) h)
  rw [if_neg k10] at h
  by_cases k9:t.kind=9
  ·rw [if_pos k9,Bool.and_eq_true,List.all_eq_true] at h
   obtain ⟨n,r⟩:=h
   rw [Bool.not_eq_true',List.any_eq_false] at r
   refine Zb k9 (by omega) k (fun p a=>?_) fun q j=>?_
   ·cases c:Df x p.2.1 with
    | none =>
     right
     refine ⟨rfl,?_⟩
     have l:=r p a
     have C:Yt x p.2.1=false:=by
      cases q:Yt x p.2.1 with
      | false=>rfl
      | true =>
       rw [Yt,List.any_eq_true] at q
       obtain ⟨z,f,e⟩:=q
       rw [Df,Option.map_eq_none_iff,List.find?_eq_none] at c
       exact absurd e (c z f)
     rw [ZaP,C] at l
     by_cases q:p.2.2.1=2
     ·exact q
     ·rw [decide_eq_false q] at l;exact absurd rfl l
    | some y =>
     left
     refine ⟨y,rfl,?_⟩
     obtain ⟨q,j,w,rfl⟩:=Kp c
     have:=n q j
     rw [w,QS (J9 _ _ _ o.apart).1 a] at this
     exact QY d e _ _ (Bv gt a) (HZ gx (by rw [Bt,if_neg (by omega),if_pos (by omega)];exact List.mem_map_of_mem j)) (by have:=Ty.depth_field a;omega) this
   ·have:=n q j
    cases c:Bj t q.1 with
    | none=>rw [c] at this;cases this
    | some p=>rfl
  ·exact Gy k8 k9 k10 (by rw [EI,if_neg i,if_neg k2,if_neg k3,if_neg k4,if_neg k5,if_neg k8,if_neg k9,if_neg k10])
theorem V1 (f:Vl→Option Vl):∀ (l m:List Vl),Pg f l=some m→m.length=l.length∧∀ u∈m,∃ v∈l,f v=some u
 | [],m,h=>by rw [Pg] at h;cases h;simp
 | v::r,m,h=>by
  rw [Pg] at h
  obtain ⟨y,a,h⟩:=Option.bind_eq_some_iff.1 h
  obtain ⟨l,g,rfl⟩:=Option.map_eq_some_iff.1 h
  obtain ⟨b,d⟩:=V1 f r l g
  refine ⟨by rw [List.length_cons,List.length_cons,b],fun u hu=>?_⟩
  rcases List.mem_cons.1 hu with rfl | hu
  ·exact ⟨v,List.mem_cons_self .., a⟩
  ·obtain ⟨z,c,e⟩:=d u hu
   exact ⟨z,List.mem_cons_of_mem _ c,e⟩
theorem VI {f:Ty→Ty→Vl→Option Vl} {a:Ty} {v:Vl} {g:TF} {o:List (ByteArray × Vl)} (h:MM f a v g=some o) :
  (∃ p x y,GF a.fields g.1=some p∧Df v p.2.1=some x∧f p.2.2.2.1 g.2.2.2.1 x=some y∧o=[(g.2.1,y)])∨(g.2.2.1=3∧∃ x r,g.2.2.2.2=x::r∧o=[(g.2.1,x)])∨(o=[]∧g.2.2.1≠1∧(g.2.2.1=3→g.2.2.2.2=[])):=by
 have b:Vu g=some o→(g.2.2.1=3∧∃ x r,g.2.2.2.2=x::r∧o=[(g.2.1,x)])∨(o=[]∧g.2.2.1≠1∧(g.2.2.1=3→g.2.2.2.2=[])):=fun h=>by
  rw [Vu] at h
  by_cases c1:g.2.2.1=1
  ·rw [if_pos c1] at h;cases h
  rw [if_neg c1] at h
  by_cases c3:g.2.2.1=3
  ·rw [if_pos c3] at h
   cases q:g.2.2.2.2 with
   | nil=>rw [q] at h;cases h;exact .inr ⟨rfl,c1,fun _=>rfl⟩
   | cons x r=>rw [q] at h;cases h;exact .inl ⟨c3,x,r,rfl,rfl⟩
  ·rw [if_neg c3] at h;cases h;exact .inr ⟨rfl,c1,fun q=>absurd q c3⟩
 rw [MM] at h
 cases hp:GF a.fields g.1 with
 | none=>rw [hp] at h;exact .inr (b h)
 | some p =>
  rw [hp] at h
  cases hx:Df v p.2.1 with
  | none=>simp only [hx] at h;exact .inr (b h)
  | some x =>
   simp only [hx] at h
   obtain ⟨y,c,rfl⟩:=Option.map_eq_some_iff.1 h
   exact .inl ⟨p,x,y,rfl,hx,c,rfl⟩
theorem P3 {f:Ty→Ty→Vl→Option Vl} {a:Ty} {v:Vl} {g:TF} {o:List (ByteArray × Vl)} (h:MM f a v g=some o):o.map Prod.fst=[g.2.1]∨o=[]:=by
 rcases VI h with ⟨p,x,y,_,_,_,rfl⟩ | ⟨_,x,r,_,rfl⟩ | ⟨rfl,_⟩
 ·exact .inl rfl
 ·exact .inl rfl
 ·exact .inr rfl
theorem VK (f:Ty→Ty→Vl→Option Vl) (a:Ty) (v:Vl):∀ (gs:List TF) (l:List (ByteArray × Vl)),NP f a v gs=some l →
  (l.map Prod.fst).Sublist (gs.map fun g=>g.2.1)∧(∀ g∈gs,∃ o,MM f a v g=some o∧∀ q∈o,q∈l)∧∀ q∈l,∃ g∈gs,∃ o,MM f a v g=some o∧q∈o
 | [],l,h=>by rw [NP] at h;cases h;simp
 | g::gs,l,h=>by
  rw [NP] at h
  obtain ⟨o,ho,h⟩:=Option.bind_eq_some_iff.1 h
  obtain ⟨m,d,rfl⟩:=Option.map_eq_some_iff.1 h
  obtain ⟨h1,i,j⟩:=VK f a v gs m d
  refine ⟨?_,fun x hx=>?_,fun q hq=>?_⟩
  ·rw [List.map_append,List.map_cons]
   rcases P3 ho with e | e
   ·rw [e,List.singleton_append];exact h1.cons_cons _
   ·subst e;exact h1.cons _
  ·rcases List.mem_cons.1 hx with rfl | hx
   ·exact ⟨o,ho,fun q hq=>List.mem_append_left _ hq⟩
   ·obtain ⟨c,b,k⟩:=i x hx
    exact ⟨c,b,fun q hq=>List.mem_append_right _ (k q hq)⟩
  ·rcases List.mem_append.1 hq with hq | hq
   ·exact ⟨g,List.mem_cons_self .., o,ho,hq⟩
   ·obtain ⟨x,hx,c,b,k⟩:=j q hq
    exact ⟨x,List.mem_cons_of_mem _ hx,c,b,k⟩
theorem Zbl {l:List TF} (h:(l.map fun p=>p.2.1).Nodup) {p q:TF} (hp:p∈l) (hq:q∈l) (e:p.2.1=q.2.1):p=q:=by
 obtain ⟨i,a,rfl⟩:=List.mem_iff_getElem.1 hp
 obtain ⟨j,b,rfl⟩:=List.mem_iff_getElem.1 hq
 rcases Nat.lt_trichotomy i j with w | w | w
 ·exact absurd e (by have:=List.pairwise_iff_getElem.1 h i j (by simpa using a) (by simpa using b) w;simpa using this)
 ·subst w;rfl
 ·exact absurd e.symm (by have:=List.pairwise_iff_getElem.1 h j i (by simpa using b) (by simpa using a) w;simpa using this)
theorem Tm:∀ (d e z:Nat) (a b:Ty) (w y:Vl),a.Good→b.Fine z→b.depth≤e→EI d a w=true→Tn d a b w=some y→WI e b y
 | 0,e,z,a,b,w,y,_,_,_,h,_=>by simp [EI] at h
 | d+1,0,z,a,b,w,y,_,_,hd,_,_=>by have:=b.depth_eq;omega
 | d+1,e+1,0,a,b,w,y,_,h,_,_,_=>by cases h
 | d+1,e+1,z+1,a,b,w,y,ga,fb,hd,i,hu=>by
  have gb:=fb.good
  have F:=gb.own
  have k1:=F.kind
  obtain ⟨hk,_,_,K⟩:=Qn i
  have c0:=Oy (t:=a) (v:=w) (by have:=ga.own.kind;omega) hk K
  rw [EI,if_neg c0] at i
  rw [Tn] at hu
  by_cases num:(a.kind=2∨a.kind=3)∧(b.kind=2∨b.kind=3)
  ·rw [if_pos num] at hu
   obtain ⟨m,_,hu⟩:=Option.bind_eq_some_iff.1 hu
   by_cases hb:Lp m b=true
   ·rw [if_pos hb] at hu
    cases hu
    have fo:A5 (Vl.mk b.kind m b.scale ⟨#[]⟩ [] [])=true:=by
     rcases num.2 with q | q
     ·rw [F.noscale (by omega)];simp [A5,bare,Vl.kind,Vl.int,Vl.scale,Vl.text,Vl.list,Vl.fields,q,HD]
     ·simp [A5,bare,Vl.kind,Vl.int,Vl.scale,Vl.text,Vl.list,Vl.fields,q,HD]
    refine Gy (by omega) (by omega) (by omega) ?_
    rw [EI,if_neg (Oy k1 rfl fo)]
    rcases num.2 with q | q
    ·rw [if_pos (.inl q)];exact hb
    ·rw [if_neg (by omega),if_pos q,Bool.and_eq_true];exact ⟨decide_eq_true rfl,hb⟩
   ·rw [if_neg hb] at hu;cases hu
  rw [if_neg num] at hu
  by_cases ne:a.kind=b.kind
  rotate_left
  ·rw [if_pos ne] at hu;cases hu
  rw [if_neg (fun q=>q ne)] at hu
  have n2:b.kind≠2:=fun q=>num ⟨.inl (by omega),.inl q⟩
  have Y:b.kind≠3:=fun q=>num ⟨.inr (by omega),.inr q⟩
  have G:=Oy (t:=b) (v:=w) k1 (by omega) K
  by_cases k67:b.kind=6∨b.kind=7
  ·rw [if_pos k67] at hu
   by_cases hb:Lp w.int b=true
   ·rw [if_pos hb] at hu;cases hu
    exact Gy (by omega) (by omega) (by omega) (by rw [EI,if_neg G,if_pos (by omega)];exact hb)
   ·rw [if_neg hb] at hu;cases hu
  rw [if_neg k67] at hu
  by_cases k5:b.kind=5
  ·rw [if_pos k5] at hu
   by_cases hb:Lp w.text.size b=true
   ·rw [if_pos hb] at hu;cases hu
    exact Gy (by omega) (by omega) (by omega) (by rw [EI,if_neg G,if_neg (by omega),if_neg Y,if_neg (by omega),if_pos k5];exact hb)
   ·rw [if_neg hb] at hu;cases hu
  rw [if_neg k5] at hu
  by_cases k4:b.kind=4
  ·rw [if_pos k4] at hu
   by_cases hb:GY w.text b=true
   ·rw [if_pos hb] at hu;cases hu
    exact Gy (by omega) (by omega) (by omega) (by rw [EI,if_neg G,if_neg (by omega),if_neg Y,if_pos k4];exact hb)
   ·rw [if_neg hb] at hu;cases hu
  rw [if_neg k4] at hu
  by_cases k8:b.kind=8
  ·obtain ⟨x,C⟩:=ga.own.elem (by omega)
   obtain ⟨x',s⟩:=F.elem k8
   have aa:x∈a.elem:=by rw [C];simp
   have n:x'∈b.elem:=by rw [s];simp
   rw [if_pos k8,C,s] at hu
   obtain ⟨l,hl,hu⟩:=Option.bind_eq_some_iff.1 hu
   rw [if_neg (by omega),if_neg (by omega),if_neg (by omega),if_neg (by omega),if_pos (by omega),Bool.and_eq_true,List.all_eq_true] at i
   by_cases hb:Lp w.list.length b=true
   ·rw [if_pos hb] at hu;cases hu
    obtain ⟨h1,h2⟩:=V1 _ _ _ hl
    refine Wa k8 rfl (by simp [A5,bare,Vl.kind,Vl.int,Vl.scale,Vl.text,Vl.list,Vl.fields,HD]) s (by show Lp (l.length:Int) b=true;rw [h1];exact hb) fun u hu=>?_
    obtain ⟨v,hv,e1⟩:=h2 u hu
    have:=i.2 v hv
    rw [C] at this
    exact Tm d e z x x' v u (Gt ga aa) (fb.elem n) (by have:=Ty.depth_elem n;omega) this e1
   ·rw [if_neg hb] at hu;cases hu
  rw [if_neg k8] at hu
  by_cases k9:b.kind=9
  ·rw [if_pos k9] at hu
   obtain ⟨l,hl,rfl⟩:=Option.map_eq_some_iff.1 hu
   obtain ⟨s1,s2,s3⟩:=VK _ _ _ _ _ hl
   have nb:=(J9 _ _ _ F.apart).1
   have nl:(l.map Prod.fst).Nodup:=nb.sublist s1
   have ss:=Qg l nl
   rw [if_neg (by omega),if_neg (by omega),if_neg (by omega),if_neg (by omega),if_neg (by omega),if_pos (by omega),Bool.and_eq_true,List.all_eq_true] at i
   have E:∀ q,q∈BG l↔q∈l:=fun q=>(I1 l).mem_iff
   have fo:A5 (Vl.mk 9 0 0 ⟨#[]⟩ [] (BG l))=true:=by
    have:=(W6 (BG l)).2 ss
    simp [A5,bare,Vl.kind,Vl.int,Vl.scale,Vl.text,Vl.list,Vl.fields,HD,this]
   refine Zb k9 rfl fo (fun g k=>?_) fun q Q=>?_
   ·obtain ⟨o,ho,U⟩:=s2 g k
    have J:∀ y,(g.2.1,y)∈o→Df (Vl.mk 9 0 0 ⟨#[]⟩ [] (BG l)) g.2.1=some y:=fun y O=>Va (v:=Vl.mk 9 0 0 ⟨#[]⟩ [] (BG l)) ss (q:=(g.2.1,y)) ((E _).2 (U _ O))
    have dg:=Ty.depth_field k
    rcases VI ho with ⟨p,x,y,hp,C,O,rfl⟩ | ⟨c3,x,r,C,rfl⟩ | ⟨rfl,G,c3⟩
    ·left
     have j:p∈a.fields:=List.mem_of_find?_eq_some hp
     have:=i.1 p j
     rw [C] at this
     exact ⟨y,J y (by simp),Tm d e z _ _ x y (Bv ga j) (fb.field k) (by omega) this O⟩
    ·left
     obtain ⟨d1,d2⟩:=fb.dfl k x (by rw [C];simp)
     exact ⟨x,J x (by simp),QY 12 e _ x (Bv gb k) (KV d1) (by omega) d2⟩
    ·right
     have H:=F.each g k
     refine ⟨?_,?_⟩
     ·cases c:Df (Vl.mk 9 0 0 ⟨#[]⟩ [] (BG l)) g.2.1 with
      | none=>rfl
      | some y =>
       obtain ⟨q,Q,e1,_⟩:=Kp c
       obtain ⟨N,Z,o',ho',hq'⟩:=s3 q ((E q).1 Q)
       have:o'.map Prod.fst=[N.2.1]:=by
        rcases P3 ho' with h | h
        ·exact h
        ·subst h;simp at hq'
       have V:q.1=N.2.1:=by
        have:=List.mem_map_of_mem (f:=Prod.fst) hq'
        rw [‹o'.map Prod.fst=[N.2.1]›, List.mem_singleton] at this
        exact this
       have:N=g:=Zbl nb Z k (by rw [←V,e1])
       subst this
       rw [ho] at ho'
       cases ho'
       simp at hq'
     ·have:g.2.2.1≠3:=fun q=>by have:=H.2.2.2.2.1 q;rw [c3 q] at this;simp at this
      omega
   ·obtain ⟨g,k,o,ho,hqo⟩:=s3 q ((E q).1 Q)
    have:o.map Prod.fst=[g.2.1]:=by
     rcases P3 ho with h | h
     ·exact h
     ·subst h;simp at hqo
    have V:q.1=g.2.1:=by
     have h:=List.mem_map_of_mem (f:=Prod.fst) hqo
     rw [this,List.mem_singleton] at h
     exact h
    rw [V];exact Z3 k
  rw [if_neg k9] at hu
  by_cases k10:b.kind=10
  ·rw [if_pos k10] at hu
   rw [if_neg (by omega),if_neg (by omega),if_neg (by omega),if_neg (by omega),if_neg (by omega),if_neg (by omega),if_pos (by omega)] at i
   cases c:Bj a w.text with
   | none=>rw [c] at hu;simp at hu
   | some p =>
    cases hl:w.list with
    | nil=>rw [c,hl] at hu;simp at hu
    | cons x xs =>
     rw [c,hl] at hu i
     simp only at hu
     have i:EI d p.2.2.2.1 x=true:=i
     have j:=(DN c).1
     cases g:GF b.fields p.1 with
     | none=>rw [g] at hu;cases hu
     | some q =>
      rw [g] at hu
      have D:q∈b.fields:=List.mem_of_find?_eq_some g
      obtain ⟨u,ab,rfl⟩:=Option.map_eq_some_iff.1 hu
      exact VJ k10 rfl (by simp [A5,bare,Vl.kind,Vl.int,Vl.scale,Vl.text,Vl.list,Vl.fields]) (QS (J9 _ _ _ F.apart).1 D) rfl (Tm d e z _ _ x u (Bv ga j) (fb.field D) (by have:=Ty.depth_field D;omega) i ab)
  ·rw [if_neg k10] at hu
   cases hu
   exact Gy k8 k9 k10 (by rw [EI,if_neg G,if_neg (by omega),if_neg Y,if_neg k4,if_neg k5,if_neg k8,if_neg k9,if_neg k10])
def Dn (n:Nat) (h:Ty) (g:Ty):Option Int :=
 (EQ n h).bind fun b =>
 if !(decide (b=0)) then
  some (b)
 else
  (EQ n g).bind fun q =>
  some (q)
theorem HH (w0:World) (hT:Lib.Utf8Tabs 0 1 w0) (n:Nat) (B:List (List AV)) (Rw:List RowA) (L:List LoopA) (a0:Ty) (a1:Ty) (r:Int) (h:Dn n a0 a1=some r) :
  ACalls Tryz.prog w0 78 [.agg (a0.cs),.agg (a1.cs)] ⟨B,Rw,L⟩ fun x st=>x = .val (.int .i64 r)∧st=⟨B,Rw,L⟩:=by
 rw [Dn] at h
 refine hd [.tmp 4] Tryz.func78 Tryz.ntmps78 fun M0 W0 l j i a o g hs=>?_
 simp only [Am]
 refine rg [2,3] hs ?_
 apply Aa;intro K2 d
 obtain ⟨m,e,h⟩:=bind_some h
 refine rc 2 [3,5] hs ?_;intro K3 b
 refine Ab _ (Ku w0 hT n _ _ _ a0 _ e) (hv hs) ?_
 refine ne hs b ?_
 clear b
 refine rg [3,5,9] hs ?_
 refine Av h hs (fun hs h=>?_) (fun hs h=>?_)
 ·refine rg [4] hs ?_
  exact rt h hs a g
 refine sk [3] hs d ?_
 clear d
 obtain ⟨k,f,h⟩:=bind_some h
 refine rc 2 [4] hs ?_;intro K8 c
 refine Ab _ (Ku w0 hT n _ _ _ a1 _ f) (hv hs) ?_
 refine ne hs c ?_
 clear c
 exact rt h hs a g
def En (n:Nat) (q:Ty) (a1:Ty) (a2:Vl):Option (Vl × Int) :=
 (Dn n q a1).bind fun y =>
 if !(decide (y=0)) then
  some ((Vl.mk 0 0 0 ((⟨#[]⟩:ByteArray)) ([]) ([]),y))
 else
  (Ez n q a2).bind fun s =>
  if !(decide (s.2=0)) then
   some ((Vl.mk 0 0 0 ((⟨#[]⟩:ByteArray)) ([]) ([]),s.2))
  else
   (Az n q a1 s.1).bind fun b =>
   if !b.2 then
    some ((Vl.mk 0 0 0 ((⟨#[]⟩:ByteArray)) ([]) ([]),20))
   else
    (EO n b.1).bind fun h =>
    if !(decide (h=0)) then
     some ((Vl.mk 0 0 0 ((⟨#[]⟩:ByteArray)) ([]) ([]),9))
    else
     (BK n b.1).bind fun g =>
     some ((g,0))
theorem LC (w0:World) (hP:Pow10 w0) (hT:Lib.Utf8Tabs 0 1 w0) (n:Nat) (B:List (List AV)) (Rw:List RowA) (L:List LoopA) (a0:Ty) (a1:Ty) (a2:Vl) (r:Vl × Int) (h:En n a0 a1 a2=some r) :
  ACalls Tryz.prog w0 29 [.agg (a0.cs),.agg (a1.cs),.agg (a2.cs)] ⟨B,Rw,L⟩ fun x st=>x = .tup [.agg (r.1.cs),.val (.int .i64 r.2)]∧st=⟨B,Rw,L⟩:=by
 rw [En] at h
 refine hd [.cell 6 46,.tmp 7] Tryz.func29 Tryz.ntmps29 fun M0 W0 C y t a D m hs=>?_
 simp only [Am]
 refine rg [3,4,5,6] hs ?_
 apply Aa;intro K2 l
 obtain ⟨z,s,h⟩:=bind_some h
 refine rc 2 [3,4,5,6,8] hs ?_;intro K3 k
 refine Ab _ (HH w0 hT n _ _ _ a0 a1 _ s) (hv hs) ?_
 refine ne hs k ?_
 clear k
 refine rg [3,4,5,6,8,16] hs ?_
 refine Av h hs (fun hs h=>?_) (fun hs h=>?_)
 ·refine rg [6,7] hs ?_
  exact rt h hs a m
 refine sk [3,4,5,6] hs l ?_
 clear l
 obtain ⟨w,q,h⟩:=bind_some h
 refine rc 2 [3,4,5,6,9] hs ?_;intro K8 o
 refine Ab _ (JG w0 hP hT n _ _ _ a0 a2 _ q) (hv hs) ?_
 refine ne hs o ?_
 clear o
 apply Aa;intro K10 c
 refine rg [3,4,5,6,9,26] hs ?_
 refine Av h hs (fun hs h=>?_) (fun hs h=>?_)
 ·refine rg [6,7] hs ?_
  exact rt h hs a m
 refine sk [3,4,5,6] hs c ?_
 clear c
 obtain ⟨j,p,h⟩:=bind_some h
 refine rc 2 [6,10,11] hs ?_;intro K14 e
 refine Ab _ (IB w0 n _ _ _ a0 a1 w.1 _ p) (hv hs) ?_
 refine ne hs e ?_
 clear e
 apply Aa;intro K16 b
 apply Ad
 refine rg [6,10,36] hs ?_
 refine Av h hs (fun hs h=>?_) (fun hs h=>?_)
 ·refine rg [6,7] hs ?_
  exact rt h hs a m
 obtain ⟨u,i,h⟩:=bind_some h
 refine rc 2 [6,10,40] hs ?_;intro K20 f
 refine Ab _ (KC w0 hT n _ _ _ j.1 _ i) (hv hs) ?_
 refine ne hs f ?_
 clear f
 refine Av h hs (fun hs h=>?_) (fun hs h=>?_)
 ·refine rg [6,7] hs ?_
  exact rt h hs a m
 refine sk [6,10] hs b ?_
 clear b
 obtain ⟨v,g,h⟩:=bind_some h
 refine rc 2 [6,7] hs ?_;intro K24 d
 refine Ab _ (G7 w0 n _ _ _ j.1 _ g) (hv hs) ?_
 refine ne hs d ?_
 clear d
 exact rt h hs a m
theorem YT:∀ (k:Nat) (a x b m1 m2:Int),a≤x→x≤b→upN k a=some m1→upN k b=some m2→∃ m,upN k x=some m∧m1≤m∧m≤m2
 | 0,a,x,b,m1,m2,h1,h2,h3,h4=>by
  rw [upN] at h3 h4
  cases h3;cases h4
  exact ⟨x,rfl,h1,h2⟩
 | k+1,a,x,b,m1,m2,h1,h2,h3,h4=>by
  rw [upN] at h3 h4 ⊢
  by_cases c1 : -999999999999999≤a*10∧a*10≤999999999999999
  ·by_cases c2 : -999999999999999≤b*10∧b*10≤999999999999999
   ·rw [if_pos c1] at h3
    rw [if_pos c2] at h4
    rw [if_pos (show -999999999999999≤x*10∧x*10≤999999999999999 by omega)]
    exact YT k (a*10) (x*10) (b*10) m1 m2 (by omega) (by omega) h3 h4
   ·rw [if_neg c2] at h4;cases h4
  ·rw [if_neg c1] at h3;cases h3
theorem Zdo {a b:Ty} {x:Int} (h:Z7 a b=true) (hx:Lp x a=true):∃ m,KT x a.scale b.scale=some m∧Lp m b=true:=by
 rw [Jl] at hx
 rw [Z7] at h
 cases h1:KT a.min a.scale b.scale with
 | none=>rw [h1] at h;cases h
 | some p =>
  cases h2:KT a.max a.scale b.scale with
  | none=>rw [h1,h2] at h;cases h
  | some q =>
   rw [h1,h2] at h
   simp only [Bool.and_eq_true,Bool.or_eq_true,decide_eq_true_eq,Jl] at h
   obtain ⟨⟨g1,g2⟩,g3⟩:=h
   by_cases c:a.scale≤b.scale
   ·rw [KT,if_pos c] at h1 h2
    obtain ⟨m,d,f,e⟩:=YT _ _ _ _ _ _ hx.1 hx.2 h1 h2
    exact ⟨m,by rw [KT,if_pos c];exact d,by rw [Jl];omega⟩
   ·have:x=a.min:=by omega
    exact ⟨p,by rw [this];exact h1,by rw [Jl];exact g1⟩
theorem ZcU {w:ByteArray} (h:w.size=0):w=⟨#[]⟩:=by
 cases w with
 | mk d=>exact congrArg ByteArray.mk (Array.eq_empty_of_size_eq_zero h)
theorem SY {a b:Ty} {x:Int} (h:Yx a b=true) (hx:Lp x a=true):Lp x b=true:=by
 rw [Yx,Bool.and_eq_true,decide_eq_true_eq,decide_eq_true_eq] at h
 rw [Jl] at hx ⊢
 omega
theorem Zcd {a b:Ty} {w:ByteArray} (h:ZE a b=true) (hw:GY w a=true):GY w b=true:=by
 rw [ZE] at h
 rw [GY] at hw
 by_cases q:a.words=[]
 ·rw [if_pos q] at hw
  rw [if_neg (fun z=>z q)] at h
  by_cases r:b.words=[]
  ·rw [if_neg (fun z=>z r)] at h
   rw [GY,if_pos r]
   exact SY h hw
  ·rw [if_pos r,Bool.and_eq_true,decide_eq_true_eq] at h
   rw [Jl] at hw
   rw [ZcU (w:=w) (by omega)]
   exact h.2
 ·rw [if_neg q] at hw
  rw [if_pos q,List.all_eq_true] at h
  obtain ⟨x,c,e⟩:=List.any_eq_true.1 hw
  rw [←(EE _ _).1 e]
  exact h x c
theorem VC (f:Vl→Option Vl):∀ l:List Vl,(∀ v∈l,∃ y,f v=some y)→∃ m,Pg f l=some m
 | [],_=>⟨[],rfl⟩
 | v::r,h=>by
  obtain ⟨y,a⟩:=h v (List.mem_cons_self ..)
  obtain ⟨m,b⟩:=VC f r fun u c=>h u (List.mem_cons_of_mem _ c)
  exact ⟨y::m,by rw [Pg,a,Option.bind_some,b];rfl⟩
theorem Wi (f:Ty→Ty→Vl→Option Vl) (a:Ty) (v:Vl):∀ gs:List TF,(∀ g∈gs,∃ o,MM f a v g=some o)→∃ l,NP f a v gs=some l
 | [],_=>⟨[],rfl⟩
 | g::r,h=>by
  obtain ⟨o,ho⟩:=h g (List.mem_cons_self ..)
  obtain ⟨m,b⟩:=Wi f a v r fun u c=>h u (List.mem_cons_of_mem _ c)
  exact ⟨o++m,by rw [NP,ho,Option.bind_some,b];rfl⟩
theorem Yi {g:TF} (h:g.2.2.1≠1):∃ o,Vu g=some o:=by
 rw [Vu,if_neg h]
 split<;>exact ⟨_,rfl⟩
theorem Ta:∀ (d:Nat) (a b:Ty) (w:Vl),a.Good→b.Good→Ou d a b=true→EI d a w=true→∃ y,Tn d a b w=some y
 | 0,a,b,w,_,_,_,h=>by simp [EI] at h
 | d+1,a,b,w,ga,gb,hc,e=>by
  have E:=gb.own
  have V:=E.kind
  obtain ⟨H,_,_,D⟩:=Qn e
  have O:=Oy (t:=a) (v:=w) (by have:=ga.own.kind;omega) H D
  rw [EI,if_neg O] at e
  rw [Ou] at hc
  rw [Tn]
  by_cases num:(a.kind=2∨a.kind=3)∧(b.kind=2∨b.kind=3)
  ·rw [if_pos num] at hc ⊢
   have hx:Lp w.int a=true:=by
    rcases num.1 with q | q
    ·rwa [if_pos (.inl q)] at e
    ·rw [if_neg (by omega),if_pos q,Bool.and_eq_true] at e
     exact e.2
   obtain ⟨m,Q,G⟩:=Zdo hc hx
   exact ⟨_,by rw [Q,Option.bind_some,if_pos G]⟩
  rw [if_neg num] at hc ⊢
  by_cases ne:a.kind=b.kind
  rotate_left
  ·rw [if_pos ne] at hc;cases hc
  rw [if_neg (fun q=>q ne)] at hc ⊢
  have U:b.kind≠2:=fun q=>num ⟨.inl (by omega),.inl q⟩
  have Y:b.kind≠3:=fun q=>num ⟨.inr (by omega),.inr q⟩
  by_cases kb1:b.kind=1
  ·exact ⟨w,by rw [if_neg (by omega),if_neg (by omega),if_neg (by omega),if_neg (by omega),if_neg (by omega),if_neg (by omega)]⟩
  rw [if_neg kb1] at hc
  by_cases k67:b.kind=6∨b.kind=7
  ·rw [if_neg (by omega),if_neg (by omega),if_neg (by omega),if_neg (by omega)] at hc
   rw [if_pos (by omega)] at e
   exact ⟨w,by rw [if_pos k67,if_pos (SY hc e)]⟩
  rw [if_neg k67]
  by_cases k5:b.kind=5
  ·rw [if_neg (by omega),if_neg (by omega),if_neg (by omega),if_neg (by omega)] at hc
   rw [if_neg (by omega),if_neg (by omega),if_neg (by omega),if_pos (by omega)] at e
   exact ⟨w,by rw [if_pos k5,if_pos (SY hc e)]⟩
  rw [if_neg k5]
  by_cases k4:b.kind=4
  ·rw [if_pos k4] at hc
   rw [if_neg (by omega),if_neg (by omega),if_pos (by omega)] at e
   exact ⟨w,by rw [if_pos k4,if_pos (Zcd hc e)]⟩
  rw [if_neg k4] at hc ⊢
  by_cases k8:b.kind=8
  ·obtain ⟨x,hx⟩:=ga.own.elem (by omega)
   obtain ⟨s,j⟩:=E.elem k8
   have C:x∈a.elem:=by rw [hx];simp
   have k:s∈b.elem:=by rw [j];simp
   rw [if_pos k8,hx,j,Bool.and_eq_true,Bool.or_eq_true,decide_eq_true_eq] at hc
   rw [if_neg (by omega),if_neg (by omega),if_neg (by omega),if_neg (by omega),if_pos (by omega),Bool.and_eq_true,List.all_eq_true] at e
   have K:=SY hc.1 e.1
   have:∃ m,Pg (Tn d x s) w.list=some m:=VC _ _ fun u r=>by
    rcases hc.2 with z | z
    ·have:=Jl.1 e.1
     have N:w.list=[]:=List.length_eq_zero_iff.1 (by omega)
     rw [N] at r;simp at r
    ·have:=e.2 u r
     rw [hx] at this
     exact Ta d x s u (Gt ga C) (Gt gb k) z this
   obtain ⟨m,J⟩:=this
   rw [if_pos k8,hx,j]
   exact ⟨_,by simp only [J,Option.bind_some];rw [if_pos K]⟩
  rw [if_neg k8] at hc ⊢
  by_cases k9:b.kind=9
  ·rw [if_pos k9,List.all_eq_true] at hc
   rw [if_neg (by omega),if_neg (by omega),if_neg (by omega),if_neg (by omega),if_neg (by omega),if_pos (by omega),Bool.and_eq_true,List.all_eq_true] at e
   have:∃ l,NP (Tn d) a w b.fields=some l:=Wi _ _ _ _ fun g F=>by
    have hcg:=hc g F
    rw [MM]
    cases hp:GF a.fields g.1 with
    | none =>
     rw [hp] at hcg
     exact Yi (fun q=>by rw [decide_eq_true q] at hcg;cases hcg)
    | some p =>
     rw [hp] at hcg
     simp only at hcg ⊢
     have i:p∈a.fields:=List.mem_of_find?_eq_some hp
     rw [Bool.and_eq_true,Bool.not_eq_true',Bool.and_eq_false_iff,decide_eq_false_iff_not,decide_eq_false_iff_not] at hcg
     have f:=e.1 p i
     cases hx:Df w p.2.1 with
     | none =>
      rw [hx] at f
      simp only [decide_eq_true_eq] at f
      exact Yi (fun q=>by rcases hcg.2 with z | z;exact z q;exact z f)
     | some x =>
      rw [hx] at f
      obtain ⟨y,n⟩:=Ta d _ _ x (Bv ga i) (Bv gb F) hcg.1 f
      exact ⟨_,by simp only [n];rfl⟩
   obtain ⟨l,hl⟩:=this
   exact ⟨_,by rw [if_pos k9,hl];rfl⟩
  rw [if_neg k9] at hc ⊢
  by_cases k10:b.kind=10
  ·rw [if_pos k10,List.all_eq_true] at hc
   rw [if_neg (by omega),if_neg (by omega),if_neg (by omega),if_neg (by omega),if_neg (by omega),if_neg (by omega),if_pos (by omega)] at e
   cases c:Bj a w.text with
   | none=>rw [c] at e;simp at e
   | some p =>
    cases hl:w.list with
    | nil=>rw [c,hl] at e;simp at e
    | cons x xs =>
     rw [c,hl] at e
     have e:EI d p.2.2.2.1 x=true:=e
     have i:=(DN c).1
     have hcp:=hc p i
     cases g:GF b.fields p.1 with
     | none=>rw [g] at hcp;cases hcp
     | some q =>
      rw [g] at hcp
      have o:q∈b.fields:=List.mem_of_find?_eq_some g
      obtain ⟨y,n⟩:=Ta d _ _ x (Bv ga i) (Bv gb o) hcp e
      exact ⟨_,by rw [if_pos k10];simp only [g,n];rfl⟩
  ·exact ⟨w,by rw [if_neg k10]⟩
def UpR (t1 t2:Ty) (v:Vl):Vl × Int:=if EI 12 t1 (BZ 12 t1 v)=true then (match Tn 12 t1 t2 (BZ 12 t1 v) with | none=>(nilV,20) | some y=>if N1 y=0 then (y,0) else (nilV,9)) else (nilV,18)
theorem ZZ (n:Nat) (t1 t2:Ty) (v:Vl) (hn:10000000000≤n) (q1:t1.small) (q2:t2.small) (vok:v.ok) (hv:v.size≤1048576) (e1:EQ n t1=some 0) (e2:EQ n t2=some 0) (g1:t1.Fine 8) (g2:t2.Fine 8):En n t1 t2 v=some (UpR t1 t2 v):=by
 have i:∀ c:Int,c≠0→(!decide (c=0))=true:=fun c h=>by rw [decide_eq_false h];rfl
 have b:(!decide ((0:Int)=0))=false:=by decide
 have d:Dn n t1 t2=some 0:=by rw [Dn,e1,Option.bind_some,b,if_neg (show ¬ (false=true) by decide),e2];rfl
 have j:=Oz n t1 v q1 vok hv (by omega)
 obtain ⟨m,l⟩:=Oi 12 t1 v q1 vok hv
 have s:=v.depth_size
 rw [En,d,Option.bind_some,b,if_neg (show ¬ (false=true) by decide),j,Option.bind_some,UpR]
 by_cases hf:EI 12 t1 (BZ 12 t1 v)=true
 rotate_left
 ·rw [if_neg hf,if_neg hf,if_pos (show (!decide ((nilV,(18:Int)).2=0))=true by decide)]
 rw [if_pos hf,if_pos hf,b,if_neg (show ¬ (false=true) by decide)]
 obtain ⟨e,r,k,p,a,q⟩:=Yc 12 n (v.depth+1048576) 8 t1 t2 (BZ 12 t1 v) q1 q2 g1.good g2 m l hf (by omega)
 rw [k,Option.bind_some]
 cases o:Tn 12 t1 t2 (BZ 12 t1 v) with
 | none =>
  rw [o] at a
  have x1:e.2=false:=a.1
  rw [x1,if_pos (by rfl)]
 | some y =>
  rw [o] at a
  have x1:e=(y,true):=a.1
  obtain ⟨_,g,f⟩:=a
  subst x1
  have f:y.depth≤v.depth+1048576+1048576:=f
  rw [if_neg (by simp),TC n y (by omega) (by omega) g,Option.bind_some]
  by_cases c:N1 y=0
  ·rw [c,b,if_neg (show ¬ (false=true) by decide),Ik n y g (by omega),Option.bind_some];simp only [c,if_true]
  ·rw [if_pos (i _ c)];simp only [c,if_false]
def JS (rec:Ty→Option Int) (n:Nat)  (b:Int):Option Int :=
 if BR (b+1) then
  some (b+1)
 else none
def FZ (rec:Ty→Option Int) (n:Nat) (q:Ty):Nat→Int→Int→Option Int
 | 0,_,_=>none
 | m+1,g,b =>
  if decide (b<(q.fields.length:Int)) then
   (Cb q.fields b).bind fun s =>
   (rec s.2.2.2.1).bind fun h =>
   if BR (b+1) then
    (FZ rec n q m) ((if g<h then h else g)) (b+1)
   else none
  else
   JS rec n g
def Lm (rec:Ty→Option Int) (n:Nat) (g:Ty) (b:Int):Option Int :=
 FZ rec n g n b 0
def GV (rec:Ty→Option Int) (n:Nat) (q:Ty):Nat→Int→Int→Option Int
 | 0,_,_=>none
 | m+1,g,b =>
  if decide (b<(q.elem.length:Int)) then
   (Cb q.elem b).bind fun s =>
   (rec s).bind fun h =>
   if BR (b+1) then
    (GV rec n q m) ((if g<h then h else g)) (b+1)
   else none
  else
   Lm rec n q g
def MV (rec:Ty→Option Int) (n:Nat) (b:Ty):Option Int :=
 GV rec n b n 0 0
def H3:Nat→Ty→Option Int
 | 0,_=>none
 | n+1,b=>MV (H3 n) n b
def PV (w0:World) (F:Ty→Option Int):Prop:=∀ (B:List (List AV)) (Rw:List RowA) (L:List LoopA) (b:Ty) (r:Int),F b=some r→ACalls Tryz.prog w0 74 [.agg (b.cs)] ⟨B,Rw,L⟩ fun x st=>x = .val (.int .i64 r)∧st=⟨B,Rw,L⟩
theorem Ve (w0:World) (rec:Ty→Option Int) (ih:PV w0 rec) (n:Nat):PV w0 (MV rec n):=by
 intro B Rw L a0 r h
 rw [MV] at h
 refine hd [.tmp 2] Tryz.func74 Tryz.ntmps74 fun M0 W0 D l k d V j hs=>?_
 simp only [Am]
 refine rg [1] hs ?_
 refine rg [1,3] hs ?_
 refine Ak (fun e st=>∃ (i:Int),Ck e st B Rw L [(1,true,.box B.length 0),(3,true,.val (.int .i64 i))] [a0.cs] [] (Lm rec n a0 i=some r)) ?_ ?_
 ·intro K5 J
  refine rg [1,3,4] hs ?_
  apply Ad
  refine Ap (fun m e st=>∃ (b:Int) (f:Int),Ck e st B Rw L [(1,true,.box B.length 0),(3,true,.val (.int .i64 b)),(4,true,.val (.int .i64 f))] [a0.cs] [] (GV rec n a0 m b f=some r)) n ⟨0,0,([]),Rw,ef hs,ef hs,j,h⟩ ?_
  rintro ml7 e st ⟨b,f,Xl7,Rl7,rfl,rfl,j,h⟩ Ul7 Vl7
  cases ml7 with
  | zero=>cases h
  | succ ml7 =>
  rw [GV] at h
  refine td D l k d j ?_
  apply Aa;intro K8 C
  refine rg [1,3,4,10] hs ?_
  refine Av h hs (fun hs h=>?_) (fun hs h=>?_)
  rotate_left
  ·refine sx [1,3] hs J ?_
   exact ⟨b,([]),Rl7,ef hs,ef hs,j,h⟩
  refine sk [1,3,4] hs C ?_
  clear C
  apply Aa;intro K11 o
  apply Ad
  obtain ⟨H,K,G,u,h⟩:=ix HK h
  obtain ⟨x,v,h⟩:=bind_some h
  have hs:=And.intro u hs
  refine rk 2 [1,3,4] hs ?_
  refine Ab _ (ih _ _ _ H _ v) (hv hs) ?_
  refine ne hs o ?_
  clear o
  obtain ⟨O,h⟩:=Ac h
  refine rl [1,3,4] hs (fun e s=>Vl7 ml7 e s (Nat.lt_succ_self _)) ?_
  exact ⟨((if b<x then x else b)),(f+1),([]),Rl7,ef hs,ef hs,j,h⟩
 ·clear h;rintro e st ⟨i,Xk4,Rk4,rfl,rfl,j,h⟩
  rw [Lm] at h
  refine td D l k d j ?_
  refine Ak (fun e st=>∃ (g:Int),Ck e st B Rw L [(3,true,.val (.int .i64 g))] [a0.cs] [] (JS rec n g=some r)) ?_ ?_
  ·intro K17 w
   refine rg [1,3,5] hs ?_
   apply Ad
   refine Ap (fun m e st=>∃ (a:Int) (c:Int),Ck e st B Rw L [(1,true,.box B.length 0),(3,true,.val (.int .i64 a)),(5,true,.val (.int .i64 c))] [a0.cs] [] (FZ rec n a0 m a c=some r)) n ⟨i,0,([]),Rk4,ef hs,ef hs,j,h⟩ ?_
   rintro ml19 e st ⟨a,c,Xl19,Rl19,rfl,rfl,j,h⟩ Ul19 Vl19
   cases ml19 with
   | zero=>cases h
   | succ ml19 =>
   rw [FZ] at h
   refine td D l k d j ?_
   apply Aa;intro K20 p
   refine rg [1,3,5,25] hs ?_
   refine Av h hs (fun hs h=>?_) (fun hs h=>?_)
   rotate_left
   ·refine sx [3] hs w ?_
    exact ⟨a,([]),Rl19,ef hs,ef hs,j,h⟩
   refine sk [1,3,5] hs p ?_
   clear p
   apply Aa;intro K23 q
   apply Ad
   obtain ⟨N,F,E,t,h⟩:=ix Cd h
   obtain ⟨z,y,h⟩:=bind_some h
   have hs:=And.intro t hs
   refine rk 2 [1,3,5] hs ?_
   refine Ab _ (ih _ _ _ N.2.2.2.1 _ y) (hv hs) ?_
   refine ne hs q ?_
   clear q
   obtain ⟨U,h⟩:=Ac h
   refine rl [1,3,5] hs (fun e s=>Vl19 ml19 e s (Nat.lt_succ_self _)) ?_
   exact ⟨((if a<z then z else a)),(c+1),([]),Rl19,ef hs,ef hs,j,h⟩
  ·clear h;rintro e st ⟨g,Xk16,Rk16,rfl,rfl,j,h⟩
   rw [JS] at h
   refine td D l k d j ?_
   obtain ⟨Q,h⟩:=Ac h
   refine rg [2] hs ?_
   exact rt h hs d j
theorem Oj (w0:World):∀ n:Nat,PV w0 (H3 n)
 | 0=>fun _ _ _ _ _ h=>(nomatch h)
 | n+1=>Ve w0 (H3 n) (Oj w0 n) n
def Oa (rec:Ty→Option Int) (n:Nat)  (b:Int):Option Int :=
 some (b)
def G9 (rec:Ty→Option Int) (n:Nat) (s:Ty):Nat→Int→Int→Option Int
 | 0,_,_=>none
 | m+1,g,b =>
  if decide (b<(s.fields.length:Int)) then
   (Cb s.fields b).bind fun q =>
   (rec q.2.2.2.1).bind fun h =>
   if BR (g+h) then
    if BR (b+1) then
     (G9 rec n s m) (g+h) (b+1)
    else none
   else none
  else
   Oa rec n g
def PS (rec:Ty→Option Int) (n:Nat) (g:Ty) (b:Int):Option Int :=
 G9 rec n g n b 0
def HN (rec:Ty→Option Int) (n:Nat) (q:Ty):Nat→Int→Int→Option Int
 | 0,_,_=>none
 | m+1,g,b =>
  if decide (b<(q.elem.length:Int)) then
   (Cb q.elem b).bind fun s =>
   (rec s).bind fun h =>
   if BR (g+h) then
    if BR (b+1) then
     (HN rec n q m) (g+h) (b+1)
    else none
   else none
  else
   PS rec n q g
def OK (rec:Ty→Option Int) (n:Nat) (b:Ty):Option Int :=
 HN rec n b n 1 0
def I7:Nat→Ty→Option Int
 | 0,_=>none
 | n+1,b=>OK (I7 n) n b
def Rk (w0:World) (F:Ty→Option Int):Prop:=∀ (B:List (List AV)) (Rw:List RowA) (L:List LoopA) (b:Ty) (r:Int),F b=some r→ACalls Tryz.prog w0 75 [.agg (b.cs)] ⟨B,Rw,L⟩ fun x st=>x = .val (.int .i64 r)∧st=⟨B,Rw,L⟩
theorem WN (w0:World) (rec:Ty→Option Int) (ih:Rk w0 rec) (n:Nat):Rk w0 (OK rec n):=by
 intro B Rw L a0 r h
 rw [OK] at h
 refine hd [.tmp 2] Tryz.func75 Tryz.ntmps75 fun M0 W0 z l k d Y j hs=>?_
 simp only [Am]
 refine rg [1] hs ?_
 refine rg [1,3] hs ?_
 refine Ak (fun e st=>∃ (i:Int),Ck e st B Rw L [(1,true,.box B.length 0),(3,true,.val (.int .i64 i))] [a0.cs] [] (PS rec n a0 i=some r)) ?_ ?_
 ·intro K5 K
  refine rg [1,3,4] hs ?_
  apply Ad
  refine Ap (fun m e st=>∃ (c:Int) (f:Int),Ck e st B Rw L [(1,true,.box B.length 0),(3,true,.val (.int .i64 c)),(4,true,.val (.int .i64 f))] [a0.cs] [] (HN rec n a0 m c f=some r)) n ⟨1,0,([]),Rw,ef hs,ef hs,j,h⟩ ?_
  rintro ml7 e st ⟨c,f,Xl7,Rl7,rfl,rfl,j,h⟩ Ul7 Vl7
  cases ml7 with
  | zero=>cases h
  | succ ml7 =>
  rw [HN] at h
  refine td z l k d j ?_
  apply Aa;intro K8 y
  refine rg [1,3,4,10] hs ?_
  refine Av h hs (fun hs h=>?_) (fun hs h=>?_)
  rotate_left
  ·refine sx [1,3] hs K ?_
   exact ⟨c,([]),Rl7,ef hs,ef hs,j,h⟩
  refine sk [1,3,4] hs y ?_
  clear y
  apply Aa;intro K11 p
  apply Ad
  obtain ⟨F,N,D,u,h⟩:=ix HK h
  obtain ⟨C,v,h⟩:=bind_some h
  obtain ⟨U,h⟩:=Ac h
  have hs:=And.intro u hs
  refine rk 2 [1,3,4] hs ?_
  refine Ab _ (ih _ _ _ F _ v) (hv hs) ?_
  refine ne hs p ?_
  clear p
  obtain ⟨Q,h⟩:=Ac h
  refine rl [1,3,4] hs (fun e s=>Vl7 ml7 e s (Nat.lt_succ_self _)) ?_
  exact ⟨(c+C),(f+1),([]),Rl7,ef hs,ef hs,j,h⟩
 ·clear h;rintro e st ⟨i,Xk4,Rk4,rfl,rfl,j,h⟩
  rw [PS] at h
  refine td z l k d j ?_
  refine Ak (fun e st=>∃ (g:Int),Ck e st B Rw L [(3,true,.val (.int .i64 g))] [a0.cs] [] (Oa rec n g=some r)) ?_ ?_
  ·intro K18 x
   refine rg [1,3,5] hs ?_
   apply Ad
   refine Ap (fun m e st=>∃ (a:Int) (b:Int),Ck e st B Rw L [(1,true,.box B.length 0),(3,true,.val (.int .i64 a)),(5,true,.val (.int .i64 b))] [a0.cs] [] (G9 rec n a0 m a b=some r)) n ⟨i,0,([]),Rk4,ef hs,ef hs,j,h⟩ ?_
   rintro ml20 e st ⟨a,b,Xl20,Rl20,rfl,rfl,j,h⟩ Ul20 Vl20
   cases ml20 with
   | zero=>cases h
   | succ ml20 =>
   rw [G9] at h
   refine td z l k d j ?_
   apply Aa;intro K21 o
   refine rg [1,3,5,25] hs ?_
   refine Av h hs (fun hs h=>?_) (fun hs h=>?_)
   rotate_left
   ·refine sx [3] hs x ?_
    exact ⟨a,([]),Rl20,ef hs,ef hs,j,h⟩
   refine sk [1,3,5] hs o ?_
   clear o
   apply Aa;intro K24 q
   apply Ad
   obtain ⟨E,G,J,t,h⟩:=ix Cd h
   obtain ⟨H,w,h⟩:=bind_some h
   obtain ⟨O,h⟩:=Ac h
   have hs:=And.intro t hs
   refine rk 2 [1,3,5] hs ?_
   refine Ab _ (ih _ _ _ E.2.2.2.1 _ w) (hv hs) ?_
   refine ne hs q ?_
   clear q
   obtain ⟨V,h⟩:=Ac h
   refine rl [1,3,5] hs (fun e s=>Vl20 ml20 e s (Nat.lt_succ_self _)) ?_
   exact ⟨(a+H),(b+1),([]),Rl20,ef hs,ef hs,j,h⟩
  ·clear h;rintro e st ⟨g,Xk17,Rk17,rfl,rfl,j,h⟩
   rw [Oa] at h
   refine td z l k d j ?_
   refine rg [2] hs ?_
   exact rt h hs d j
theorem UA (w0:World):∀ n:Nat,Rk w0 (I7 n)
 | 0=>fun _ _ _ _ _ h=>(nomatch h)
 | n+1=>WN w0 (I7 n) (UA w0 n) n
def GT (n:Nat) (b:Ty):Option Bool :=
 (H3 n b).bind fun h =>
 if decide (h≤10) then
  (I7 n b).bind fun g =>
  some (decide (g≤60))
 else
  some (false)
theorem Du (w0:World) (n:Nat) (B:List (List AV)) (Rw:List RowA) (L:List LoopA) (a0:Ty) (r:Bool) (h:GT n a0=some r) :
  ACalls Tryz.prog w0 27 [.agg (a0.cs)] ⟨B,Rw,L⟩ fun x st=>x = .val (.bool r)∧st=⟨B,Rw,L⟩:=by
 rw [GT] at h
 refine hd [.tmp 2] Tryz.func27 Tryz.ntmps27 fun M0 W0 k i f a j e hs=>?_
 simp only [Am]
 refine rg [1] hs ?_
 apply Aa;intro K2 b
 obtain ⟨g,c,h⟩:=bind_some h
 rcases Bool.eq_false_or_eq_true (decide (g≤10)) with hf4 | hf4
 ·replace h:=AO h hf4
  obtain ⟨l,d,h⟩:=bind_some h
  have hs:=And.intro hf4 hs
  refine rk 3 [2] hs ?_
  refine Ab _ (Oj w0 n _ _ _ a0 _ c) (hv hs) ?_
  refine nc hs ?_
  refine Ab _ (UA w0 n _ _ _ a0 _ d) (hv hs) ?_
  refine ne hs b ?_
  clear b
  exact rt h hs a e
 ·replace h:=AN h hf4
  have hs:=And.intro hf4 hs
  refine rk 3 [2] hs ?_
  refine Ab _ (Oj w0 n _ _ _ a0 _ c) (hv hs) ?_
  refine nc hs ?_
  refine As ?_
  refine ne hs b ?_
  clear b
  exact rt h hs a e
def HV  : List (Nat × Vl)→Int→Option Int
 | [],b1_r6 =>
  some (b1_r6)
 | p_r6::rest,b1_r6 =>
  (HV  rest) ((if b1_r6<(p_r6.1:Int) then (p_r6.1:Int) else b1_r6))
def OT (b:Vl):Option Int :=
 if b.depth<4611686018427387904∧b.wide=true then
  HV  (E8 1 b) 0
 else none
theorem Uf (w0:World) (B:List (List AV)) (Rw:List RowA) (L:List LoopA) (a0:Vl) (r:Int) (h:OT a0=some r) :
  ACalls Tryz.prog w0 76 [.agg (a0.cs)] ⟨B,Rw,L⟩ fun x st=>x = .val (.int .i64 r)∧st=⟨B,Rw,L⟩:=by
 rw [OT] at h
 refine hd [.tmp 2] Tryz.func76 Tryz.ntmps76 fun M0 W0 y u k c H d hs=>?_
 simp only [Am]
 refine rg [1] hs ?_
 refine rg [1,3] hs ?_
 apply Aa;intro K3 f
 refine rc 2 [3,6] hs ?_;intro K4 e
 refine Bo _ (Oo w0 _ _ _ a0) (hv hs) ?_;rintro _ _ ⟨rfl,rfl⟩
 refine ne hs e ?_
 clear e
 apply Ad
 obtain ⟨q,h⟩:=Ac h
 refine Q2 (IR a0) (fun st=>st.boxes[(B.length+2)]? = some a0.cs) (fun i st=>∃ (a:Int) (Rr6:List RowA),st=⟨B++([a0.cs,[.val (.int .i64 a)],a0.cs]),Rr6,L⟩∧Owns Rw Rr6 []∧HV  ((E8 1 a0).drop i) a=some r) (fun _ _=>False) ev ev (LO w0 a0 q _) (fun x m=>PN a0 x m) (by decide) ?_ ⟨0,Rw,ef hs,d,h⟩ (fun _ _ h=>h.elim) ?_ ?_ ?_
 ·rintro i st o ⟨a,Rr6,rfl,d,h⟩ _ _;simp +decide [St.push]
 ·rintro i F ⟨XB,XR,XL⟩ x M1 W1 l o C hX w n j m z K v
  obtain ⟨b,t,rfl,D⟩:=P6 a0 i x m
  (try simp only at hX)
  subst hX
  obtain ⟨a,Rr6,rfl,d,h⟩:=w
  rw [UH t,HV] at h
  have g:=d
  simp only [St.ext,St.push,List.append_assoc,List.append_nil]
  apply Ag 1 [3,4]
  rw [Ae];simp +decide only [go_sem,Nat.reduceAdd]
  (repeat' apply And.intro)<;>first | refine v _ _ (by simp [St.ext,St.push]) (fun G p=>?_) | exact cl
  clear v
  dsimp only [St.ext,St.push]
  apply Ad
  apply Ag 1 [3]
  rw [Ae];simp +decide only [go_sem,Nat.reduceAdd]
  (repeat' apply And.intro)<;>first | refine p _ _ _ ⟨⟨B++[a0.cs,[.val (.int .i64 ((if a<(b.1:Int) then (b.1:Int) else a)))],a0.cs],Rr6,L⟩,[],by first | rfl | (simp only [List.append_assoc,List.append_nil,List.cons_append,List.nil_append];done),⟨by simp,by first | exact Nat.le_refl _ | (have:=d.len;simp;omega),rfl⟩,rfl,⟨((if a<(b.1:Int) then (b.1:Int) else a)),Rr6,ef hs,d,h⟩,?_⟩ | exact cl
  exact .inl rfl
 ·rintro s o ⟨XB,XR,XL⟩ hXR ⟨a,Rr6,rfl,d,h⟩ _ _
  simp only at hXR
  subst hXR
  rw [List.drop_eq_nil_of_le (by rw [LK];exact Nat.le_refl _),HV] at h
  simp only [St.ext,St.push,List.append_assoc,List.append_nil]
  (repeat' apply And.intro)<;>first | refine f _ _ ?_ | exact cl
  clear f
  refine RJ (bs:=[a0.cs,[.val (.int .i64 a)],a0.cs]) y u k rfl c d ow ow ?_
  refine rg [2] hs ?_
  exact rt h hs c d
 ·rintro E s o X hX h;exact h.elim
def N7 (b:Vl):Option Bool :=
 (OT b).bind fun h =>
 if decide (h≤12) then
  (MI b).bind fun g =>
  some (decide (g≤1000))
 else
  some (false)
theorem ZbM (w0:World) (B:List (List AV)) (Rw:List RowA) (L:List LoopA) (a0:Vl) (r:Bool) (h:N7 a0=some r) :
  ACalls Tryz.prog w0 28 [.agg (a0.cs)] ⟨B,Rw,L⟩ fun x st=>x = .val (.bool r)∧st=⟨B,Rw,L⟩:=by
 rw [N7] at h
 refine hd [.tmp 2] Tryz.func28 Tryz.ntmps28 fun M0 W0 k i f a j e hs=>?_
 simp only [Am]
 refine rg [1] hs ?_
 apply Aa;intro K2 b
 obtain ⟨g,c,h⟩:=bind_some h
 rcases Bool.eq_false_or_eq_true (decide (g≤12)) with hf4 | hf4
 ·replace h:=AO h hf4
  obtain ⟨l,d,h⟩:=bind_some h
  have hs:=And.intro hf4 hs
  refine rk 3 [2] hs ?_
  refine Ab _ (Uf w0 _ _ _ a0 _ c) (hv hs) ?_
  refine nc hs ?_
  refine Ab _ (VM w0 _ _ _ a0 _ d) (hv hs) ?_
  refine ne hs b ?_
  clear b
  exact rt h hs a e
 ·replace h:=AN h hf4
  have hs:=And.intro hf4 hs
  refine rk 3 [2] hs ?_
  refine Ab _ (Uf w0 _ _ _ a0 _ c) (hv hs) ?_
  refine nc hs ?_
  refine As ?_
  refine ne hs b ?_
  clear b
  exact rt h hs a e
theorem TU:∀ (l:List Vl) (v:Vl),v∈l→v.bulk≤H7 l
 | [],_,h=>by simp at h
 | a::r,v,h=>by
  rcases List.mem_cons.1 h with rfl | h
  ·simp [H7]
  ·have:=TU r v h
   simp [H7];omega
theorem UN:∀ (l:List ByteArray) (v:ByteArray),v∈l→v.size+1≤MZ l
 | [],_,h=>by simp at h
 | a::r,v,h=>by
  rcases List.mem_cons.1 h with rfl | h
  ·simp [MZ]
  ·have:=UN r v h
   simp [MZ];omega
theorem Tu:∀ l:List ByteArray,l.length≤MZ l
 | []=>Nat.le_refl _
 | v::r=>by have:=Tu r;simp [MZ];omega
mutual
theorem Vl.size_bulk:∀ v:Vl,v.size≤v.bulk
 | .mk _ _ _ _ l f=>by have:=N2 l;have:=RU f;simp only [Vl.size,Vl.bulk];omega
theorem N2:∀ l:List Vl,GU l≤H7 l
 | []=>Nat.le_refl _
 | v::r=>by have:=v.size_bulk;have:=N2 r;simp only [GU,H7];omega
theorem RU:∀ l:List (ByteArray × Vl),F9 l≤N5 l
 | []=>Nat.le_refl _
 | (_,v)::r=>by have:=v.size_bulk;have:=RU r;simp only [F9,N5];omega
end
theorem ZB (l:List Vl):l.length≤H7 l:=Nat.le_trans (M5 l) (N2 l)
mutual
theorem Ty.size_bulk:∀ t:Ty,t.size≤t.bulk
 | .mk _ _ _ _ _ l f=>by have:=Su l;have:=Qm f;simp only [Ty.size,Ty.bulk];omega
theorem Su:∀ l:List Ty,Ha l≤Oh l
 | []=>Nat.le_refl _
 | v::r=>by have:=v.size_bulk;have:=Su r;simp only [Ha,Oh];omega
theorem Qm:∀ l:List TF,EG l≤Ln l
 | []=>Nat.le_refl _
 | (_,_,_,v,_)::r=>by have:=v.size_bulk;have:=Qm r;simp only [EG,Ln];omega
end
mutual
theorem Vl.ok_bulk:∀ v:Vl,v.bulk≤1048576→v.ok
 | .mk _ _ _ t l f,h=>by
  simp only [Vl.bulk] at h
  exact ⟨by omega,VZ l (by omega),VU f (by omega)⟩
theorem VZ:∀ l:List Vl,H7 l≤1048576→Zag l
 | [],_=>trivial
 | v::r,h=>by
  simp only [H7] at h
  exact ⟨v.ok_bulk (by omega),VZ r (by omega)⟩
theorem VU:∀ l:List (ByteArray × Vl),N5 l≤1048576→Zx l
 | [],_=>trivial
 | (_,v)::r,h=>by
  simp only [N5] at h
  exact ⟨by omega,v.ok_bulk (by omega),VU r (by omega)⟩
end
theorem Vl.small_bulk (v:Vl) (h:v.bulk≤1048575):v.small:=by
 have:=v.size_bulk
 have:=v.depth_size
 exact ⟨by omega,by omega,v.ok_bulk (by omega)⟩
mutual
theorem Ty.ok_bulk:∀ t:Ty,t.bulk≤1048576→t.ok
 | .mk _ _ _ _ w l f,h=>by
  simp only [Ty.bulk] at h
  have:=Tu w
  exact ⟨by omega,fun x a=>by have:=UN w x a;omega,Wg l (by omega),U8 f (by omega)⟩
theorem Wg:∀ l:List Ty,Oh l≤1048576→Zbb l
 | [],_=>trivial
 | v::r,h=>by
  simp only [Oh] at h
  exact ⟨v.ok_bulk (by omega),Wg r (by omega)⟩
theorem U8:∀ l:List TF,Ln l≤1048576→VS l
 | [],_=>trivial
 | (_,n,_,v,d)::r,h=>by
  simp only [Ln] at h
  have:=ZB d
  have b:=v.size_bulk
  have:=v.size_pos
  exact ⟨⟨by omega,v.ok_bulk (by omega),by omega,fun x a=>x.small_bulk (by have:=TU d x a;omega)⟩,U8 r (by omega)⟩
end
theorem Ty.small_of {t:Ty} (h:t.bulk≤1048576) (h1:t.size≤200) (h2:t.depth≤12):t.small:=⟨h1,h2,t.ok_bulk h⟩
theorem Un (rec:Ty→Option Int) (n:Nat) (t:Ty) (hr:∀ p∈t.fields,rec p.2.2.2.1=some (p.2.2.2.1.size:Int)) (hl:t.fields.length≤1000000000):∀ (k m i c:Nat),i+k=t.fields.length→k<m→c+EG (t.fields.drop i)≤1000000000 →
  G9 rec n t m (c:Int) i=some ((c+EG (t.fields.drop i):Nat):Int)
 | k,0,i,c,_,h,_=>absurd h (Nat.not_lt_zero _)
 | 0,m+1,i,c,hi,_,_=>by
  rw [G9,An,decide_eq_false (show ¬ i<t.fields.length by omega),List.drop_eq_nil_of_le (by omega)]
  rfl
 | k+1,m+1,i,c,hi,hm,hc=>by
  have a:i<t.fields.length:=by omega
  rw [QI _ _ a] at hc
  rw [G9,An,decide_eq_true a]
  rw [if_pos rfl,Au a,Option.bind_some,hr _ (List.getElem_mem a),Option.bind_some]
  rw [if_pos (by unfold BR;omega),if_pos (Ar (by omega)),QI _ _ a,←Nat.add_assoc]
  exact Un rec n t hr hl k m (i+1) (c+t.fields[i].2.2.2.1.size) (by omega) (by omega) (by omega)
theorem VF (rec:Ty→Option Int) (n:Nat) (t:Ty) (hs:t.size≤1000000000) (hn:t.fields.length<n) (hr:∀ x∈t.elem,rec x=some (x.size:Int)) (hr2:∀ p∈t.fields,rec p.2.2.2.1=some (p.2.2.2.1.size:Int)):∀ (k m i c:Nat),i+k=t.elem.length→k<m→c+Ha (t.elem.drop i)+EG t.fields≤1000000000 →
  HN rec n t m (c:Int) i=some ((c+Ha (t.elem.drop i)+EG t.fields:Nat):Int)
 | k,0,i,c,_,h,_=>absurd h (Nat.not_lt_zero _)
 | 0,m+1,i,c,hi,_,hc=>by
  have:=t.lens
  rw [HN,An,decide_eq_false (show ¬ i<t.elem.length by omega),List.drop_eq_nil_of_le (by omega)]
  have:=Un rec n t hr2 (by omega) t.fields.length n 0 c (by omega) hn (by rw [List.drop_zero];omega)
  rw [List.drop_zero] at this
  exact this
 | k+1,m+1,i,c,hi,hm,hc=>by
  have:=t.lens
  have a:i<t.elem.length:=by omega
  rw [Sm _ _ a] at hc
  rw [HN,An,decide_eq_true a]
  rw [if_pos rfl,Au a,Option.bind_some,hr _ (List.getElem_mem a),Option.bind_some]
  rw [if_pos (by unfold BR;omega),if_pos (Ar (by omega)),Sm _ _ a,←Nat.add_assoc]
  exact VF rec n t hs hn hr hr2 k m (i+1) (c+t.elem[i].size) (by omega) (by omega) (by omega)
theorem RG:∀ (n:Nat) (t:Ty),t.size<n→t.size≤1000000000→I7 n t=some (t.size:Int)
 | 0,t,h,_=>absurd h (Nat.not_lt_zero _)
 | n+1,t,h,hs=>by
  have d:=t.lens
  have c:=t.size_eq
  rw [I7,OK]
  have:=VF (I7 n) n t hs (by omega) (fun x a=>RG n x (by have:=t.elem_size x a;omega) (by have:=t.elem_size x a;omega)) (fun p b=>RG n _ (by have:=t.field_size p b;omega) (by have:=t.field_size p b;omega)) t.elem.length n 0 1 (by omega) (by omega) (by rw [List.drop_zero];omega)
  rw [List.drop_zero,←c] at this
  exact this
theorem Qa (l:List Ty) (i:Nat) (h:i<l.length):DZ (l.drop i)=Max.max l[i].depth (DZ (l.drop (i+1))):=by rw [List.drop_eq_getElem_cons h,DZ]
theorem Pj (l:List TF) (i:Nat) (h:i<l.length):Db (l.drop i)=Max.max l[i].2.2.2.1.depth (Db (l.drop (i+1))):=by
 rw [List.drop_eq_getElem_cons h];rfl
theorem Zay (a b:Nat):(if (a:Int)<(b:Int) then (b:Int) else (a:Int))=((Max.max a b:Nat):Int):=by
 split<;>omega
theorem SH (rec:Ty→Option Int) (n:Nat) (t:Ty) (hr:∀ p∈t.fields,rec p.2.2.2.1=some (p.2.2.2.1.depth:Int)) (hl:t.fields.length≤1000000000):∀ (k m i c:Nat),i+k=t.fields.length→k<m→Max.max c (Db (t.fields.drop i))≤1000000000 →
  FZ rec n t m (c:Int) i=some ((Max.max c (Db (t.fields.drop i))+1:Nat):Int)
 | k,0,i,c,_,h,_=>absurd h (Nat.not_lt_zero _)
 | 0,m+1,i,c,hi,_,hc=>by
  rw [FZ,An,decide_eq_false (show ¬ i<t.fields.length by omega),List.drop_eq_nil_of_le (by omega),if_neg (by decide),JS,if_pos (by unfold BR;omega)]
  simp [Db]
 | k+1,m+1,i,c,hi,hm,hc=>by
  have a:i<t.fields.length:=by omega
  rw [Pj _ _ a] at hc
  rw [FZ,An,decide_eq_true a]
  rw [if_pos rfl,Au a,Option.bind_some,hr _ (List.getElem_mem a),Option.bind_some]
  rw [if_pos (Ar (by omega)),Pj _ _ a,Zay,←Nat.max_assoc]
  exact SH rec n t hr hl k m (i+1) _ (by omega) (by omega) (by omega)
theorem Uh (rec:Ty→Option Int) (n:Nat) (t:Ty) (hs:t.size≤1000000000) (hn:t.fields.length<n) (hr:∀ x∈t.elem,rec x=some (x.depth:Int)) (hr2:∀ p∈t.fields,rec p.2.2.2.1=some (p.2.2.2.1.depth:Int)):∀ (k m i c:Nat),i+k=t.elem.length→k<m→Max.max (Max.max c (DZ (t.elem.drop i))) (Db t.fields)≤1000000000 →
  GV rec n t m (c:Int) i=some ((Max.max (Max.max c (DZ (t.elem.drop i))) (Db t.fields)+1:Nat):Int)
 | k,0,i,c,_,h,_=>absurd h (Nat.not_lt_zero _)
 | 0,m+1,i,c,hi,_,hc=>by
  have:=t.lens
  rw [GV,An,decide_eq_false (show ¬ i<t.elem.length by omega),if_neg (by decide)]
  rw [List.drop_eq_nil_of_le (by omega)] at hc ⊢
  have h:=SH rec n t hr2 (by omega) t.fields.length n 0 c (by omega) hn (by rw [List.drop_zero];simp only [DZ] at hc;omega)
  rw [List.drop_zero] at h
  rw [Lm]
  refine h.trans ?_
  simp only [DZ,Nat.max_zero]
 | k+1,m+1,i,c,hi,hm,hc=>by
  have:=t.lens
  have a:i<t.elem.length:=by omega
  rw [Qa _ _ a] at hc
  rw [GV,An,decide_eq_true a]
  rw [if_pos rfl,Au a,Option.bind_some,hr _ (List.getElem_mem a),Option.bind_some]
  rw [if_pos (Ar (by omega)),Qa _ _ a,Zay,←Nat.max_assoc]
  exact Uh rec n t hs hn hr hr2 k m (i+1) _ (by omega) (by omega) (by omega)
mutual
theorem Ty.depth_size:∀ v:Ty,v.depth≤v.size
 | .mk _ _ _ _ _ l f=>by have:=QU l;have:=Pm f;simp only [Ty.depth,Ty.size];omega
theorem QU:∀ l:List Ty,DZ l≤Ha l
 | []=>Nat.le_refl _
 | v::r=>by have:=v.depth_size;have:=QU r;simp only [DZ,Ha];omega
theorem Pm:∀ l:List TF,Db l≤EG l
 | []=>Nat.le_refl _
 | (_,_,_,v,_)::r=>by have:=v.depth_size;have:=Pm r;simp only [Db,EG];omega
end
theorem PL:∀ (n:Nat) (t:Ty),t.size<n→t.size≤1000000000→H3 n t=some (t.depth:Int)
 | 0,t,h,_=>absurd h (Nat.not_lt_zero _)
 | n+1,t,h,hs=>by
  have d:=t.lens
  have c:=t.depth_eq
  have hd:=t.depth_size
  rw [H3,MV]
  have:=Uh (H3 n) n t hs (by omega) (fun x a=>PL n x (by have:=t.elem_size x a;omega) (by have:=t.elem_size x a;omega)) (fun p b=>PL n _ (by have:=t.field_size p b;omega) (by have:=t.field_size p b;omega)) t.elem.length n 0 0 (by omega) (by omega) (by rw [List.drop_zero];omega)
  rw [List.drop_zero,Nat.zero_max,Nat.add_comm,←c] at this
  exact this
theorem Nz (n:Nat) (t:Ty) (hn:t.size<n) (hs:t.size≤1000000000):GT n t=some (decide (t.depth≤10∧t.size≤60)):=by
 rw [GT,PL n t hn hs,Option.bind_some]
 by_cases h:t.depth≤10
 ·rw [decide_eq_true (show (t.depth:Int)≤10 by omega),if_pos rfl,RG n t hn hs,Option.bind_some]
  congr 1
  rw [decide_eq_decide]
  omega
 ·rw [decide_eq_false (show ¬ (t.depth:Int)≤10 by omega),if_neg (by decide)]
  congr 1
  exact (decide_eq_false (by omega)).symm
theorem Wc:∀ (l:List (Nat × Vl)) (b:Int),∃ c,HV l b=some c
 | [],b=>⟨b,rfl⟩
 | p::r,b=>by rw [HV];exact Wc r _
theorem Zc6 (v:Vl) (h:v.size≤1048576):∃ b,N7 v=some b:=by
 obtain ⟨c,a⟩:=Wc (E8 1 v) 0
 rw [N7,OT,if_pos ⟨by have:=v.depth_size;omega,Hm _ v (Nat.le_refl _) (by omega)⟩,a,Option.bind_some]
 by_cases q:c≤12
 ·rw [decide_eq_true q,if_pos rfl,X7 v h];exact ⟨_,rfl⟩
 ·rw [decide_eq_false q,if_neg (by decide)];exact ⟨_,rfl⟩
def BN (h:ByteArray) (g:Int) (b:List (ByteArray × Int)):Option ((List (ByteArray × Int))) :=
 if (b.length+1)*24≤140737488355328∧b.length+1≤4611686018427387904 then
  some (b++([(h,g)]))
 else none
theorem Ci (w0:World) (B:List (List AV)) (Rw:List RowA) (L:List LoopA) (a0:ByteArray) (a1:Int) (la2:Nat) (a2:List (ByteArray × Int)) (oa2:Ev.Own) (hla2:B[la2]? = some [.list (a2.map JA) oa2]) (hGa2:Owns Rw Rw [(2,a2.length,oa2)] oa2) (r:(List (ByteArray × Int))) (h:BN a0 a1 a2=some r) :
  ACalls Tryz.prog w0 96 [.val (.string a0),.val (.int .i64 a1),.box la2 0] ⟨B,Rw,L⟩ fun x st=>x = .tup []∧∃ (R1:List RowA) (o1:Ev.Own),st=⟨(B.set la2 [.list (r.map JA) o1]),R1,L⟩∧Owns Rw R1 [(2,r.length,o1)] oa2:=by
 rw [BN] at h
 refine ACalls.finG (Ep (rs:=[]) Tryz.func96 rfl rfl Tryz.ntmps96 (A3 Tryz.func96 rfl (by decide)) (Nat.le_of_ble_eq_true rfl) ?_)
 intro M0 W0 l j g b m
 dsimp only at l j g b m
 simp only [Am]
 have c:=hGa2
 have hs:=Zax
 have e:=(List.getElem?_eq_some_iff.1 hla2).1
 obtain ⟨d,h⟩:=Ac h
 obtain ⟨f,i,c,a⟩:=c.append (P:=Tryz.prog) Zhm (by rw [ZbK];rfl) (by decide) 1 d.1 d.2
 replace a:=fun (ys:List AV) B L f=>a (a2.map JA) ys B L f EK
 replace a:=fun (y:AV) B L f=>a [y] B L f EK ev
 try simp only [List.mem_singleton,List.mem_cons,List.not_mem_nil,or_false,forall_eq_or_imp,forall_eq,List.map_append,List.map_cons,List.map_nil,Fp,FA,FH,FB,FC,E1,D6,DY,Fj,CO,CH,D7,D3,D5] at a
 apply Ag 1 []
 rw [Ae];simp +decide only [go_sem,Nat.reduceAdd,Af hla2,a]
 (repeat' with_reducible apply And.intro)<;>first | exact cl | skip
 have hgt:=Option.some.inj h;subst hgt
 have k:=c.unders
 simp only [List.mem_cons,List.not_mem_nil,or_false,forall_eq_or_imp,forall_eq] at k
 refine ZI c (Ah (Fe b c.len) ow) HI ev ⟨?_,_,_,?_,(c.sub (List.sublist_append_left [_] _)).len1 EK⟩
 all_goals first | rfl | (simp +decide only [go_sem,Nat.reduceAdd,Af hla2,a];done) | (simp +decide only [go_sem,Nat.reduceAdd,Vl.cs,Ty.cs,Af hla2,a];done)
def F3 (h:Bool) (g:List (ByteArray × Int)) (b:ByteArray):Option ((List (ByteArray × Int))) :=
 if h then
  (BN b 6 g).bind fun s =>
  some (s)
 else
  (BN b 7 g).bind fun q =>
  some (q)
theorem JQ (w0:World) (B:List (List AV)) (Rw:List RowA) (L:List LoopA) (a0:Bool) (la1:Nat) (a1:List (ByteArray × Int)) (oa1:Ev.Own) (hla1:B[la1]? = some [.list (a1.map JA) oa1]) (hGa1:Owns Rw Rw [(2,a1.length,oa1)] oa1) (lb1:Nat) (hlb1:B[lb1]? = some [.clo 96 [.box la1 0]]) (la2:Nat) (a2:ByteArray) (hla2:B[la2]? = some ([.val (.string a2)])) (r:(List (ByteArray × Int))) (h:F3 a0 a1 a2=some r) :
  ACalls Tryz.prog w0 161 [.val (.bool a0),.box lb1 0,.box la2 0] ⟨B,Rw,L⟩ fun x st=>x = .tup []∧∃ (R1:List RowA) (o1:Ev.Own),st=⟨(B.set la1 [.list (r.map JA) o1]),R1,L⟩∧Owns Rw R1 [(2,r.length,o1)] oa1:=by
 rw [F3] at h
 refine ACalls.finG (Ep (rs:=[]) Tryz.func161 rfl rfl Tryz.ntmps161 (A3 Tryz.func161 rfl (by decide)) (Nat.le_of_ble_eq_true rfl) ?_)
 intro M0 W0 u p l c v
 dsimp only at u p l c v
 simp only [Am]
 have d:=hGa1
 have hs:=Zax
 have i:=(List.getElem?_eq_some_iff.1 hla1).1
 have j:=(List.getElem?_eq_some_iff.1 hlb1).1
 have a:la1≠lb1:=fun q=>by have k:=hla1;rw [q,hlb1] at k;cases k
 have g:=(List.getElem?_eq_some_iff.1 hla2).1
 have hs:=And.intro (Af hla1) hs
 have hs:=And.intro (Af hlb1) hs
 have hs:=And.intro (CS hlb1 a) hs
 have hs:=And.intro (Af hla2) hs
 refine rg [1,2,4] hs ?_
 refine Av h hs (fun hs h=>?_) (fun hs h=>?_)
 ·have b:=hs.1
  obtain ⟨w,n,h⟩:=bind_some h
  apply Ag 2 []
  rw [Ae];simp +decide only [go_sem,Nat.reduceAdd,Af hla1,Af hlb1,CS hlb1 a,Af hla2,b]
  (repeat' apply And.intro)<;>first | (refine Bo _ (Ci w0 _ _ _ a2 6 la1 a1 oa1 (ef hs) d.enter _ n) (hv hs) ?_;rintro _ _ ⟨rfl,Rg4,s,rfl,e⟩) | exact cl
  have d:=d.call e
  rw [Ae];simp +decide only [go_sem,Nat.reduceAdd,Af hla1,Af hlb1,CS hlb1 a,Af hla2,b]
  (repeat' with_reducible apply And.intro)<;>first | exact cl | skip
  have hgt:=Option.some.inj h;subst hgt
  have o:=d.unders
  simp only [List.mem_cons,List.not_mem_nil,or_false,forall_eq_or_imp,forall_eq] at o
  refine ZI d (Ah (Fe c d.len) ow) HI ev ⟨?_,_,_,?_,(d.sub (List.sublist_append_left [_] _)).len1 EK⟩
  all_goals first | rfl | (simp +decide only [go_sem,Nat.reduceAdd,Af hla1,Af hlb1,CS hlb1 a,Af hla2,b];done) | (simp +decide only [go_sem,Nat.reduceAdd,Vl.cs,Ty.cs,Af hla1,Af hlb1,CS hlb1 a,Af hla2,b];done)
 have b:=hs.1
 obtain ⟨y,m,h⟩:=bind_some h
 apply Ag 2 []
 rw [Ae];simp +decide only [go_sem,Nat.reduceAdd,Af hla1,Af hlb1,CS hlb1 a,Af hla2,b]
 (repeat' apply And.intro)<;>first | (refine Bo _ (Ci w0 _ _ _ a2 7 la1 a1 oa1 (ef hs) d.enter _ m) (hv hs) ?_;rintro _ _ ⟨rfl,Rg7,t,rfl,f⟩) | exact cl
 have d:=d.call f
 rw [Ae];simp +decide only [go_sem,Nat.reduceAdd,Af hla1,Af hlb1,CS hlb1 a,Af hla2,b]
 (repeat' with_reducible apply And.intro)<;>first | exact cl | skip
 have hgt:=Option.some.inj h;subst hgt
 have o:=d.unders
 simp only [List.mem_cons,List.not_mem_nil,or_false,forall_eq_or_imp,forall_eq] at o
 refine ZI d (Ah (Fe c d.len) ow) HI ev ⟨?_,_,_,?_,(d.sub (List.sublist_append_left [_] _)).len1 EK⟩
 all_goals first | rfl | (simp +decide only [go_sem,Nat.reduceAdd,Af hla1,Af hlb1,CS hlb1 a,Af hla2,b];done) | (simp +decide only [go_sem,Nat.reduceAdd,Vl.cs,Ty.cs,Af hla1,Af hlb1,CS hlb1 a,Af hla2,b];done)
def CX (g:ByteArray) (h:Ty) (b:ByteArray):Option ByteArray :=
 if decide (h.kind=10) then
  if b.size+((⟨#[63]⟩:ByteArray)).size≤9223372036854775807 then
   if (b++((⟨#[63]⟩:ByteArray))).size+g.size≤9223372036854775807 then
    some ((b++((⟨#[63]⟩:ByteArray)))++g)
   else none
  else none
 else
  if Dz b ((⟨#[]⟩:ByteArray)) then
   some (g)
  else
   if b.size+((⟨#[46]⟩:ByteArray)).size≤9223372036854775807 then
    if (b++((⟨#[46]⟩:ByteArray))).size+g.size≤9223372036854775807 then
     some ((b++((⟨#[46]⟩:ByteArray)))++g)
    else none
   else none
theorem Ec (w0:World) (B:List (List AV)) (Rw:List RowA) (L:List LoopA) (a0:ByteArray) (la1:Nat) (a1:Ty) (hla1:B[la1]? = some (a1.cs)) (la2:Nat) (a2:ByteArray) (hla2:B[la2]? = some ([.val (.string a2)])) (r:ByteArray) (h:CX a0 a1 a2=some r) :
  ACalls Tryz.prog w0 162 [.val (.string a0),.box la1 0,.box la2 0] ⟨B,Rw,L⟩ fun x st=>x = .val (.string r)∧st=⟨B,Rw,L⟩:=by
 rw [CX] at h
 refine hd [.tmp 4] Tryz.func162 Tryz.ntmps162 fun M0 W0 s p o a q l hs=>?_
 simp only [Am]
 have j:=(List.getElem?_eq_some_iff.1 hla1).1
 have k:=(List.getElem?_eq_some_iff.1 hla2).1
 have hs:=And.intro (Af hla1) hs
 have hs:=And.intro (Af hla2) hs
 refine rg [0,1,2] hs ?_
 apply Aa;intro K2 i
 apply Ad
 refine rg [0,2,5] hs ?_
 refine Av h hs (fun hs h=>?_) (fun hs h=>?_)
 ·obtain ⟨m,h⟩:=Ac h
  have d:=m
  try simp +decide only [go_sem] at d
  obtain ⟨n,h⟩:=Ac h
  have g:=n
  try simp +decide only [go_sem] at g
  refine rg [4] hs ?_
  exact rt h hs a l
 refine rg [0,2,13] hs ?_
 refine Av h hs (fun hs h=>?_) (fun hs h=>?_)
 ·refine rg [4] hs ?_
  exact rt h hs a l
 refine sk [0,2] hs i ?_
 clear i
 obtain ⟨e,h⟩:=Ac h
 have b:=e
 try simp +decide only [go_sem] at b
 obtain ⟨f,h⟩:=Ac h
 have c:=f
 try simp +decide only [go_sem] at c
 refine rg [4] hs ?_
 exact rt h hs a l
def Gi (rec:Ty→Ty→ByteArray→(List (ByteArray × Int))→Option ((List (ByteArray × Int)))) (n:Nat) (g:Int→(List (ByteArray × Int))→Option ((List (ByteArray × Int)))) (b:Int) (pla3_k20:List (ByteArray × Int)):Option ((List (ByteArray × Int))) :=
 if BR (b+1) then
  g (b+1) pla3_k20
 else none
def Ge (rec:Ty→Ty→ByteArray→(List (ByteArray × Int))→Option ((List (ByteArray × Int)))) (n:Nat) (g:Int→(List (ByteArray × Int))→Option ((List (ByteArray × Int)))) (b:Int) (pla3_k63:List (ByteArray × Int)):Option ((List (ByteArray × Int))) :=
 if BR (b+1) then
  g (b+1) pla3_k63
 else none
def F8 (rec:Ty→Ty→ByteArray→(List (ByteArray × Int))→Option ((List (ByteArray × Int)))) (n:Nat) (s:Ty) (y:Ty) (q:ByteArray) (pla3_k79:List (ByteArray × Int)):Option ((List (ByteArray × Int))) :=
 (Cb s.elem 0).bind fun b =>
 (Cb y.elem 0).bind fun g =>
 if q.size+((⟨#[91,42,93]⟩:ByteArray)).size≤9223372036854775807 then
  (rec b g (q++((⟨#[91,42,93]⟩:ByteArray))) pla3_k79).bind fun h =>
  some (h)
 else none
def F6 (rec:Ty→Ty→ByteArray→(List (ByteArray × Int))→Option ((List (ByteArray × Int)))) (n:Nat) (b:Int→(List (ByteArray × Int))→Option ((List (ByteArray × Int)))) (a1:Ty) (a2:ByteArray) (g:Int) (h:Int × ByteArray × Int × Ty × List Vl) (q:((Int × ByteArray × Int × Ty × List Vl) × Bool)) (pla3_k44:List (ByteArray × Int)):Option ((List (ByteArray × Int))) :=
 (CX h.2.1 a1 a2).bind fun s =>
 (rec q.1.2.2.2.1 h.2.2.2.1 s pla3_k44).bind fun y =>
 Gi rec n b g y
def DL (rec:Ty→Ty→ByteArray→(List (ByteArray × Int))→Option ((List (ByteArray × Int)))) (n:Nat) (h:Ty) (q:Ty) (a2:ByteArray):Nat→Int→(List (ByteArray × Int))→Option ((List (ByteArray × Int)))
 | 0,_,_=>none
 | m+1,b,pla3_l58 =>
  if decide (b<(h.fields.length:Int)) then
   (Cb h.fields b).bind fun g =>
   (Dh n q.fields g.1).bind fun s =>
   if !s.2 then
    (CX g.2.1 q a2).bind fun y =>
    (BN y 2 pla3_l58).bind fun y72 =>
    Ge rec n (DL rec n h q a2 m) b y72
   else
    Ge rec n (DL rec n h q a2 m) b pla3_l58
  else
   some (pla3_l58)
def Gg (rec:Ty→Ty→ByteArray→(List (ByteArray × Int))→Option ((List (ByteArray × Int)))) (n:Nat) (b:Int→(List (ByteArray × Int))→Option ((List (ByteArray × Int)))) (a1:Ty) (y:ByteArray) (g:Int) (h:Int × ByteArray × Int × Ty × List Vl) (q:((Int × ByteArray × Int × Ty × List Vl) × Bool)) (pla3_k35:List (ByteArray × Int)):Option ((List (ByteArray × Int))) :=
 if !(decide (q.1.2.2.1=h.2.2.1)) then
  (CX h.2.1 a1 y).bind fun y48 =>
  (BN y48 4 pla3_k35).bind fun s =>
  F6 rec n b a1 y g h q s
 else
  F6 rec n b a1 y g h q pla3_k35
def HT (rec:Ty→Ty→ByteArray→(List (ByteArray × Int))→Option ((List (ByteArray × Int)))) (n:Nat) (g:Ty) (b:Ty) (h:ByteArray) (pla3_k12:List (ByteArray × Int)):Option ((List (ByteArray × Int))) :=
 DL rec n g b h n 0 pla3_k12
def BM (rec:Ty→Ty→ByteArray→(List (ByteArray × Int))→Option ((List (ByteArray × Int)))) (n:Nat) (y:Ty) (h:Ty) (s:ByteArray):Nat→Int→(List (ByteArray × Int))→Option ((List (ByteArray × Int)))
 | 0,_,_=>none
 | m+1,b,pla3_l15 =>
  if decide (b<(h.fields.length:Int)) then
   (Cb h.fields b).bind fun g =>
   (Dh n y.fields g.1).bind fun q =>
   if !q.2 then
    (CX g.2.1 h s).bind fun y30 =>
    (BN y30 1 pla3_l15).bind fun y31 =>
    Gi rec n (BM rec n y h s m) b y31
   else
    if !(Dz q.1.2.1 g.2.1) then
     (CX g.2.1 h s).bind fun y39 =>
     (BN y39 3 pla3_l15).bind fun y40 =>
     Gg rec n (BM rec n y h s m) h s b g q y40
    else
     Gg rec n (BM rec n y h s m) h s b g q pla3_l15
  else
   HT rec n y h s pla3_l15
def IW (rec:Ty→Ty→ByteArray→(List (ByteArray × Int))→Option ((List (ByteArray × Int)))) (n:Nat) (g:Ty) (b:Ty) (q:ByteArray) (h:List (ByteArray × Int)):Option ((List (ByteArray × Int))) :=
 if !(Di g.kind b.kind) then
  (BN q 5 h).bind fun y5 =>
  some (y5)
 else
  if (decide (b.kind=9))||(decide (b.kind=10)) then
   BM rec n g b q n 0 h
  else
   if decide (b.kind=8) then
    if (!(decide (g.min=b.min)))||(!(decide (g.max=b.max))) then
     (F3 (CL g b) h q).bind fun y =>
     F8 rec n g b q y
    else
     F8 rec n g b q h
   else
    (OZ n g b).bind fun y93 =>
    if !y93 then
     (AD n g b).bind fun s =>
     (F3 s h q).bind fun y96 =>
     some (y96)
    else
     some (h)
def Ho:Nat→Ty→Ty→ByteArray→(List (ByteArray × Int))→Option ((List (ByteArray × Int)))
 | 0,_,_,_,_=>none
 | n+1,g,b,q,h=>IW (Ho n) n g b q h
def IU (w0:World) (F:Ty→Ty→ByteArray→(List (ByteArray × Int))→Option ((List (ByteArray × Int)))):Prop:=∀ (B:List (List AV)) (Rw:List RowA) (L:List LoopA) (h:Ty) (g:Ty) (q:ByteArray) (la3:Nat) (b:List (ByteArray × Int)) (oa3:Ev.Own) (hla3:B[la3]? = some [.list (b.map JA) oa3]) (hGa3:Owns Rw Rw [(2,b.length,oa3)] oa3) (r:(List (ByteArray × Int))),F h g q b=some r→ACalls Tryz.prog w0 95 [.agg (h.cs),.agg (g.cs),.val (.string q),.clo 96 [.box la3 0]] ⟨B,Rw,L⟩ fun x st=>x = .tup []∧∃ (R1:List RowA) (o1:Ev.Own),st=⟨(B.set la3 [.list (r.map JA) o1]),R1,L⟩∧Owns Rw R1 [(2,r.length,o1)] oa3
theorem O7 (w0:World) (rec:Ty→Ty→ByteArray→(List (ByteArray × Int))→Option ((List (ByteArray × Int)))) (ih:IU w0 rec) (n:Nat):IU w0 (IW rec n):=by
 intro B Rw L a0 a1 a2 p a3 ak a bn r h
 rw [IW] at h
 refine ACalls.finG (Ep (rs:=[]) Tryz.func95 rfl rfl Tryz.ntmps95 (A3 Tryz.func95 rfl (by decide)) (Nat.le_of_ble_eq_true rfl) ?_)
 intro M0 W0 hN ao ap v hu
 dsimp only at hN ao ap v hu
 simp only [Am]
 have l:=bn
 have hs:=Zax
 have ce:=(List.getElem?_eq_some_iff.1 a).1
 have hs:=And.intro (Af a) hs
 refine rg [4,5,6,7] hs ?_
 refine rg [4,5,6,7,8] hs ?_
 apply Ad
 refine rc 2 [4,5,6,7,8,19] hs ?_;intro K3 bz
 refine Ab _ (JI w0 _ _ _ a0.kind a1.kind) (hv hs) ?_
 refine ne hs bz ?_
 clear bz
 refine Av h hs (fun hs h=>?_) (fun hs h=>?_)
 ·have c:=hs.1
  obtain ⟨y5,c3,h⟩:=bind_some h
  apply Ag 2 []
  rw [Ae];simp +decide only [go_sem,Nat.reduceAdd,Af a,c]
  (repeat' apply And.intro)<;>first | (refine Bo _ (Ci w0 _ _ _ a2 5 p a3 ak (ef hs) l.enter _ c3) (hv hs) ?_;rintro _ _ ⟨rfl,Rg6,da,rfl,bg⟩) | exact cl
  have l:=l.call bg
  rw [Ae];simp +decide only [go_sem,Nat.reduceAdd,Af a,c]
  (repeat' with_reducible apply And.intro)<;>first | exact cl | skip
  have hgt:=Option.some.inj h;subst hgt
  have hU:=l.unders
  simp only [List.mem_cons,List.not_mem_nil,or_false,forall_eq_or_imp,forall_eq] at hU
  refine Ri l (Ah (Fe v l.len) ow) HI ev ⟨?_,_,_,?_,(l.sub (List.sublist_append_left [_] _)).len1 EK⟩
  all_goals first | rfl | (simp +decide only [go_sem,Nat.reduceAdd,Af a,c];done) | (simp +decide only [go_sem,Nat.reduceAdd,Vl.cs,Ty.cs,Af a,c];done)
 have c:=hs.1
 refine rg [4,5,6,7,8,29] hs ?_
 refine Av h hs (fun hs h=>?_) (fun hs h=>?_)
 ·have d:=hs.1
  refine rg [4,5,7,9] hs ?_
  refine Ak (fun e st=>∃ (U:List (ByteArray × Int)) (Z:Ev.Own) (Xk12:List (List AV)) (Rk12:List RowA),e=[(4,true,.box B.length 0),(5,true,.box (B.length+1) 0),(7,true,.box (B.length+3) 0),(9,true,.clo 162 [.box (B.length+1) 0,.box (B.length+2) 0])]∧st=⟨(B.set p ([.list (U.map JA) Z]))++([a0.cs,a1.cs,[.val (.string a2)],[.clo 96 [.box p 0]]]++Xk12),Rk12,L⟩∧Owns Rw Rk12 [(2,U.length,Z)] ak∧HT rec n a0 a1 a2 U=some r) ?_ ?_
  ·intro K13 bo
   refine rg [4,5,7,9,40,41,42] hs ?_
   apply Ad
   refine Ap (fun m e st=>∃ (q:Int) (u:List (ByteArray × Int)) (t:Ev.Own) (Xl15:List (List AV)) (Rl15:List RowA),e=[(4,true,.box B.length 0),(5,true,.box (B.length+1) 0),(7,true,.box (B.length+3) 0),(9,true,.clo 162 [.box (B.length+1) 0,.box (B.length+2) 0]),(40,true,.list (a1.fields.map Cd) .none),(41,true,.val (.int .i64 (a1.fields.length:Int))),(42,true,.val (.int .i64 q))]∧st=⟨(B.set p ([.list (u.map JA) t]))++([a0.cs,a1.cs,[.val (.string a2)],[.clo 96 [.box p 0]]]++Xl15),Rl15,L⟩∧Owns Rw Rl15 [(2,u.length,t)] ak∧BM rec n a0 a1 a2 m q u=some r) n ⟨0,a3,ak,([]),Rw,ef hs,ef hs,Owns.of_eq (l) EK,h⟩ ?_
   rintro ml15 e st ⟨q,u,t,Xl15,Rl15,rfl,rfl,l,h⟩ Ul15 Vl15
   cases ml15 with
   | zero=>cases h
   | succ ml15 =>
   rw [BM] at h
   have hU:=l.unders
   simp only [List.mem_cons,List.not_mem_nil,or_false,forall_eq_or_imp,forall_eq] at hU
   refine Ip hN ao ap HI (Ah (Fe v l.len) ow) l ow ow ?_
   refine rg [4,5,7,9,40,41,42,43] hs ?_
   apply Aa;intro K17 ba
   refine Av h hs (fun hs h=>?_) (fun hs h=>?_)
   rotate_left
   ·have g:=hs.1
    refine sx [4,5,7,9] hs bo ?_
    exact ⟨u,t,([]),Rl15,ef hs,ef hs,Owns.of_eq (l) EK,h⟩
   have g:=hs.1
   refine sk [4,5,7,9,40,41,42] hs ba ?_
   clear ba
   refine Ak (fun e st=>∃ (K:List (ByteArray × Int)) (aa:Ev.Own) (Xk20:List (List AV)) (Rk20:List RowA),e=[(4,true,.box B.length 0),(5,true,.box (B.length+1) 0),(7,true,.box (B.length+3) 0),(9,true,.clo 162 [.box (B.length+1) 0,.box (B.length+2) 0]),(40,true,.list (a1.fields.map Cd) .none),(41,true,.val (.int .i64 (a1.fields.length:Int))),(42,true,.val (.int .i64 q))]∧st=⟨(B.set p ([.list (K.map JA) aa]))++([a0.cs,a1.cs,[.val (.string a2)],[.clo 96 [.box p 0]]]++Xk20),Rk20,L⟩∧Owns Rw Rk20 [(2,K.length,aa)] ak∧Gi rec n (BM rec n a0 a1 a2 ml15) q K=some r) ?_ ?_
   ·intro K21 a8
    apply Ad
    obtain ⟨k,bu,h⟩:=bind_some h
    obtain ⟨cx,cg,bi⟩:=Ao bu
    have b:=Aq (f:=Cd) bi
    have hs:=And.intro b hs
    refine rg [4,5,7,9,11,40,41,42] hs ?_
    obtain ⟨o,bq,h⟩:=bind_some h
    refine rc 2 [4,5,7,9,11,12,13,40,41,42] hs ?_;intro K24 bb
    refine Ab _ (Ft w0 n _ _ _ a0.fields k.1 _ bq) (hv hs) ?_
    refine ne hs bb ?_
    clear bb
    apply Aa;intro K26 a4
    refine rg [4,5,7,9,11,12,40,41,42,55] hs ?_
    refine Av h hs (fun hs h=>?_) (fun hs h=>?_)
    ·have j:=hs.1
     apply Aa;intro K29 a6
     obtain ⟨cu,bx,h⟩:=bind_some h
     obtain ⟨cv,cb,h⟩:=bind_some h
     apply MC Gm [5] [4,5,7,9,40,41,42] kr (fun s=>∃ (X:List (List AV)) (rows:List RowA) (x:List AV),s=⟨(B.set p x)++([a0.cs,a1.cs,[.val (.string a2)],[.clo 96 [.box p 0]],.val (.int .i64 k.1)::(.val (.string k.2.1)::(.val (.int .i64 k.2.2.1)::((k.2.2.2.1.cs)++([.list (k.2.2.2.2.map A1) .none])))),.val (.int .i64 o.1.1)::(.val (.string o.1.2.1)::(.val (.int .i64 o.1.2.2.1)::((o.1.2.2.2.1.cs)++([.list (o.1.2.2.2.2.map A1) .none]))))]++X),rows,L⟩) 2 (B.length+6)
     ·simp +decide only [go_sem,Nat.reduceAdd]
     ·rintro s ⟨X,rows,x,rfl⟩
      refine ⟨2,?_⟩
      rw [Ae];simp +decide only [go_sem,Nat.reduceAdd,DV,Af a,c,d,g,b,j]
      (repeat' apply And.intro)<;>first | refine Ab _ (Ec w0 _ _ _ k.2.1 (B.length+1) a1 (ef hs) (B.length+2) a2 (ef hs) _ bx) (hv hs) ?_ | exact cl
      rw [Ae];simp +decide only [go_sem,Nat.reduceAdd,Af a,c,d,g,b,j]
      (repeat' apply And.intro)<;>first | rfl | exact cl
     ·refine Good.mk [5] kr ⟨[],_,_,by first | rfl | simp only [List.append_nil,List.nil_append]⟩ ?_ ?_
      ·intro h;exact absurd h (by decide)
      ·intro i hi;simp only [List.mem_cons,List.not_mem_nil,or_false] at hi
       subst hi
       ·apply Jd rfl rfl ev rfl
        ·simp +decide only [go_sem,Nat.reduceAdd,Af a,c,d,g,b,j]
        ·simp +decide only [go_sem,Nat.reduceAdd,Af a,c,d,g,b,j]
        ·simp +decide only [go_sem,Nat.reduceAdd,Af a,c,d,g,b,j]
         exact (Ci w0 _ _ _ cu 1 p u t (ef hs) l.enter _ cb).pub (hv hs)
        ·rintro _ _ ⟨rfl,Rg32,bl,rfl,ax⟩
         have l:=l.call ax
         simp +decide only [go_sem,Nat.reduceAdd,Af a,c,d,g,b,j]
         refine Good.mk [] kr ⟨[],_,_,by first | rfl | simp only [List.append_nil,List.nil_append]⟩ ?_ ?_
         ·intro _;refine ⟨_,_,B2 [4,5,7,9,40,41,42] (by first | (simp +decide only [go_sem,Nat.reduceAdd,Af a,c,d,g,b,j];done) | (simp +decide only [go_sem,Nat.reduceAdd,Af a,c,d,g,b,j];rfl)),?_⟩
          try simp +decide only [go_sem,Nat.reduceAdd,Af a,c,d,g,b,j]
          (repeat' apply And.intro)<;>first | refine a6 _ _ ?_ | exact cl
          clear a6
          refine sx [4,5,7,9,40,41,42] hs a8 ?_
          exact ⟨cv,bl,([.val (.int .i64 k.1)::(.val (.string k.2.1)::(.val (.int .i64 k.2.2.1)::((k.2.2.2.1.cs)++([.list (k.2.2.2.2.map A1) .none])))),.val (.int .i64 o.1.1)::(.val (.string o.1.2.1)::(.val (.int .i64 o.1.2.2.1)::((o.1.2.2.2.1.cs)++([.list (o.1.2.2.2.2.map A1) .none]))))]),Rg32,ef hs,ef hs,Owns.of_eq (l) EK,h⟩
         ·intro i hi;cases hi
    have j:=hs.1
    refine sk [4,5,7,9,11,12,40,41,42] hs a4 ?_
    clear a4
    refine Ak (fun e st=>∃ (C:List (ByteArray × Int)) (G:Ev.Own) (Xk35:List (List AV)) (Rk35:List RowA),e=[(4,true,.box B.length 0),(5,true,.box (B.length+1) 0),(7,true,.box (B.length+3) 0),(9,true,.clo 162 [.box (B.length+1) 0,.box (B.length+2) 0]),(11,true,.box (B.length+4) 0),(12,true,.box (B.length+5) 0),(40,true,.list (a1.fields.map Cd) .none),(41,true,.val (.int .i64 (a1.fields.length:Int))),(42,true,.val (.int .i64 q))]∧st=⟨(B.set p ([.list (C.map JA) G]))++([a0.cs,a1.cs,[.val (.string a2)],[.clo 96 [.box p 0]],.val (.int .i64 k.1)::(.val (.string k.2.1)::(.val (.int .i64 k.2.2.1)::((k.2.2.2.1.cs)++([.list (k.2.2.2.2.map A1) .none])))),.val (.int .i64 o.1.1)::(.val (.string o.1.2.1)::(.val (.int .i64 o.1.2.2.1)::((o.1.2.2.2.1.cs)++([.list (o.1.2.2.2.2.map A1) .none]))))]++Xk35),Rk35,L⟩∧Owns Rw Rk35 [(2,C.length,G)] ak∧Gg rec n (BM rec n a0 a1 a2 ml15) a1 a2 q k o C=some r) ?_ ?_
    ·intro K36 bc
     refine rg [4,5,7,9,11,12,40,41,42,66] hs ?_
     refine Av h hs (fun hs h=>?_) (fun hs h=>?_)
     ·have ag:=hs.1
      obtain ⟨cq,bs,h⟩:=bind_some h
      obtain ⟨ck,b8,h⟩:=bind_some h
      apply MC Gm [5] [4,5,7,9,11,12,40,41,42] kr (fun s=>∃ (X:List (List AV)) (rows:List RowA) (x:List AV),s=⟨(B.set p x)++([a0.cs,a1.cs,[.val (.string a2)],[.clo 96 [.box p 0]],.val (.int .i64 k.1)::(.val (.string k.2.1)::(.val (.int .i64 k.2.2.1)::((k.2.2.2.1.cs)++([.list (k.2.2.2.2.map A1) .none])))),.val (.int .i64 o.1.1)::(.val (.string o.1.2.1)::(.val (.int .i64 o.1.2.2.1)::((o.1.2.2.2.1.cs)++([.list (o.1.2.2.2.2.map A1) .none]))))]++X),rows,L⟩) 2 (B.length+6)
      ·simp +decide only [go_sem,Nat.reduceAdd]
      ·rintro s ⟨X,rows,x,rfl⟩
       refine ⟨2,?_⟩
       rw [Ae];simp +decide only [go_sem,Nat.reduceAdd,DV,Af a,c,d,g,b,j,ag]
       (repeat' apply And.intro)<;>first | refine Ab _ (Ec w0 _ _ _ k.2.1 (B.length+1) a1 (ef hs) (B.length+2) a2 (ef hs) _ bs) (hv hs) ?_ | exact cl
       rw [Ae];simp +decide only [go_sem,Nat.reduceAdd,Af a,c,d,g,b,j,ag]
       (repeat' apply And.intro)<;>first | rfl | exact cl
      ·refine Good.mk [5] kr ⟨[],_,_,by first | rfl | simp only [List.append_nil,List.nil_append]⟩ ?_ ?_
       ·intro h;exact absurd h (by decide)
       ·intro i hi;simp only [List.mem_cons,List.not_mem_nil,or_false] at hi
        subst hi
        ·apply Jd rfl rfl ev rfl
         ·simp +decide only [go_sem,Nat.reduceAdd,Af a,c,d,g,b,j,ag]
         ·simp +decide only [go_sem,Nat.reduceAdd,Af a,c,d,g,b,j,ag]
         ·simp +decide only [go_sem,Nat.reduceAdd,Af a,c,d,g,b,j,ag]
          exact (Ci w0 _ _ _ cq 3 p u t (ef hs) l.enter _ b8).pub (hv hs)
         ·rintro _ _ ⟨rfl,Rg41,b1,rfl,av⟩
          have l:=l.call av
          simp +decide only [go_sem,Nat.reduceAdd,Af a,c,d,g,b,j,ag]
          refine Good.mk [] kr ⟨[],_,_,by first | rfl | simp only [List.append_nil,List.nil_append]⟩ ?_ ?_
          ·intro _;refine ⟨_,_,B2 [4,5,7,9,11,12,40,41,42] (by first | (simp +decide only [go_sem,Nat.reduceAdd,Af a,c,d,g,b,j,ag];done) | (simp +decide only [go_sem,Nat.reduceAdd,Af a,c,d,g,b,j,ag];rfl)),?_⟩
           try simp +decide only [go_sem,Nat.reduceAdd,Af a,c,d,g,b,j,ag]
           (repeat' apply And.intro)<;>first | refine bc _ _ ⟨ck,b1,([]),Rg41,ef hs,ef hs,Owns.of_eq (l) EK,h⟩ | exact cl
          ·intro i hi;cases hi
     have ag:=hs.1
     refine sk [4,5,7,9,11,12,40,41,42] hs bc ?_
     exact ⟨u,t,([]),Rl15,ef hs,ef hs,Owns.of_eq (l) EK,h⟩
    ·clear h;rintro e st ⟨C,G,Xk35,Rk35,rfl,rfl,l,h⟩
     rw [Gg] at h
     have hU:=l.unders
     simp only [List.mem_cons,List.not_mem_nil,or_false,forall_eq_or_imp,forall_eq] at hU
     refine Ip hN ao ap HI (Ah (Fe v l.len) ow) l ow ow ?_
     refine Ak (fun e st=>∃ (Q:List (ByteArray × Int)) (ad:Ev.Own) (Xk44:List (List AV)) (Rk44:List RowA),e=[(4,true,.box B.length 0),(5,true,.box (B.length+1) 0),(7,true,.box (B.length+3) 0),(9,true,.clo 162 [.box (B.length+1) 0,.box (B.length+2) 0]),(11,true,.box (B.length+4) 0),(12,true,.box (B.length+5) 0),(40,true,.list (a1.fields.map Cd) .none),(41,true,.val (.int .i64 (a1.fields.length:Int))),(42,true,.val (.int .i64 q))]∧st=⟨(B.set p ([.list (Q.map JA) ad]))++([a0.cs,a1.cs,[.val (.string a2)],[.clo 96 [.box p 0]],.val (.int .i64 k.1)::(.val (.string k.2.1)::(.val (.int .i64 k.2.2.1)::((k.2.2.2.1.cs)++([.list (k.2.2.2.2.map A1) .none])))),.val (.int .i64 o.1.1)::(.val (.string o.1.2.1)::(.val (.int .i64 o.1.2.2.1)::((o.1.2.2.2.1.cs)++([.list (o.1.2.2.2.2.map A1) .none]))))]++Xk44),Rk44,L⟩∧Owns Rw Rk44 [(2,Q.length,ad)] ak∧F6 rec n (BM rec n a0 a1 a2 ml15) a1 a2 q k o Q=some r) ?_ ?_
     ·intro K45 a5
      refine rg [4,5,7,9,11,12,40,41,42,77] hs ?_
      refine Av h hs (fun hs h=>?_) (fun hs h=>?_)
      ·have ah:=hs.1
       obtain ⟨cr,b2,h⟩:=bind_some h
       obtain ⟨co,bm,h⟩:=bind_some h
       apply MC Gm [5] [4,5,7,9,11,12,40,41,42] kr (fun s=>∃ (X:List (List AV)) (rows:List RowA) (x:List AV),s=⟨(B.set p x)++([a0.cs,a1.cs,[.val (.string a2)],[.clo 96 [.box p 0]],.val (.int .i64 k.1)::(.val (.string k.2.1)::(.val (.int .i64 k.2.2.1)::((k.2.2.2.1.cs)++([.list (k.2.2.2.2.map A1) .none])))),.val (.int .i64 o.1.1)::(.val (.string o.1.2.1)::(.val (.int .i64 o.1.2.2.1)::((o.1.2.2.2.1.cs)++([.list (o.1.2.2.2.2.map A1) .none]))))]++X),rows,L⟩) 2 (B.length+6)
       ·simp +decide only [go_sem,Nat.reduceAdd]
       ·rintro s ⟨X,rows,x,rfl⟩
        refine ⟨2,?_⟩
        rw [Ae];simp +decide only [go_sem,Nat.reduceAdd,DV,Af a,c,d,g,b,j,ah]
        (repeat' apply And.intro)<;>first | refine Ab _ (Ec w0 _ _ _ k.2.1 (B.length+1) a1 (ef hs) (B.length+2) a2 (ef hs) _ b2) (hv hs) ?_ | exact cl
        rw [Ae];simp +decide only [go_sem,Nat.reduceAdd,Af a,c,d,g,b,j,ah]
        (repeat' apply And.intro)<;>first | rfl | exact cl
       ·refine Good.mk [5] kr ⟨[],_,_,by first | rfl | simp only [List.append_nil,List.nil_append]⟩ ?_ ?_
        ·intro h;exact absurd h (by decide)
        ·intro i hi;simp only [List.mem_cons,List.not_mem_nil,or_false] at hi
         subst hi
         ·apply Jd rfl rfl ev rfl
          ·simp +decide only [go_sem,Nat.reduceAdd,Af a,c,d,g,b,j,ah]
          ·simp +decide only [go_sem,Nat.reduceAdd,Af a,c,d,g,b,j,ah]
          ·simp +decide only [go_sem,Nat.reduceAdd,Af a,c,d,g,b,j,ah]
           exact (Ci w0 _ _ _ cr 4 p C G (ef hs) l.enter _ bm).pub (hv hs)
          ·rintro _ _ ⟨rfl,Rg50,b5,rfl,az⟩
           have l:=l.call az
           simp +decide only [go_sem,Nat.reduceAdd,Af a,c,d,g,b,j,ah]
           refine Good.mk [] kr ⟨[],_,_,by first | rfl | simp only [List.append_nil,List.nil_append]⟩ ?_ ?_
           ·intro _;refine ⟨_,_,B2 [4,5,7,9,11,12,40,41,42] (by first | (simp +decide only [go_sem,Nat.reduceAdd,Af a,c,d,g,b,j,ah];done) | (simp +decide only [go_sem,Nat.reduceAdd,Af a,c,d,g,b,j,ah];rfl)),?_⟩
            try simp +decide only [go_sem,Nat.reduceAdd,Af a,c,d,g,b,j,ah]
            (repeat' apply And.intro)<;>first | refine a5 _ _ ⟨co,b5,([]),Rg50,ef hs,ef hs,Owns.of_eq (l) EK,h⟩ | exact cl
           ·intro i hi;cases hi
      have ah:=hs.1
      refine sk [4,5,7,9,11,12,40,41,42] hs a5 ?_
      exact ⟨C,G,([]),Rk35,ef hs,ef hs,Owns.of_eq (l) EK,h⟩
     ·clear h;rintro e st ⟨Q,ad,Xk44,Rk44,rfl,rfl,l,h⟩
      rw [F6] at h
      have hU:=l.unders
      simp only [List.mem_cons,List.not_mem_nil,or_false,forall_eq_or_imp,forall_eq] at hU
      refine Ip hN ao ap HI (Ah (Fe v l.len) ow) l ow ow ?_
      obtain ⟨ct,b6,h⟩:=bind_some h
      obtain ⟨ch,bk,h⟩:=bind_some h
      apply MC Gm [9] [4,5,7,9,40,41,42] kr (fun s=>∃ (X:List (List AV)) (rows:List RowA) (x:List AV),s=⟨(B.set p x)++([a0.cs,a1.cs,[.val (.string a2)],[.clo 96 [.box p 0]],.val (.int .i64 k.1)::(.val (.string k.2.1)::(.val (.int .i64 k.2.2.1)::((k.2.2.2.1.cs)++([.list (k.2.2.2.2.map A1) .none])))),.val (.int .i64 o.1.1)::(.val (.string o.1.2.1)::(.val (.int .i64 o.1.2.2.1)::((o.1.2.2.2.1.cs)++([.list (o.1.2.2.2.2.map A1) .none]))))]++X),rows,L⟩) 2 (B.length+6)
      ·simp +decide only [go_sem,Nat.reduceAdd]
      ·rintro s ⟨X,rows,x,rfl⟩
       refine ⟨2,?_⟩
       rw [Ae];simp +decide only [go_sem,Nat.reduceAdd,DV,Af a,c,d,g,b,j]
       (repeat' apply And.intro)<;>first | refine Ab _ (Ec w0 _ _ _ k.2.1 (B.length+1) a1 (ef hs) (B.length+2) a2 (ef hs) _ b6) (hv hs) ?_ | exact cl
       rw [Ae];simp +decide only [go_sem,Nat.reduceAdd,Af a,c,d,g,b,j]
       (repeat' apply And.intro)<;>first | rfl | exact cl
      ·refine Good.mk [9] kr ⟨[],_,_,by first | rfl | simp only [List.append_nil,List.nil_append]⟩ ?_ ?_
       ·intro h;exact absurd h (by decide)
       ·intro i hi;simp only [List.mem_cons,List.not_mem_nil,or_false] at hi
        subst hi
        ·apply Jd rfl rfl ev rfl
         ·simp +decide only [go_sem,Nat.reduceAdd,Af a,c,d,g,b,j]
         ·simp +decide only [go_sem,Nat.reduceAdd,Af a,c,d,g,b,j]
         ·simp +decide only [go_sem,Nat.reduceAdd,Af a,c,d,g,b,j]
          exact (ih _ _ _ o.1.2.2.2.1 k.2.2.2.1 ct p Q ad (ef hs) l.enter _ bk).pub (hv hs)
         ·rintro _ _ ⟨rfl,Rg54,bv,rfl,aq⟩
          have l:=l.call aq
          simp +decide only [go_sem,Nat.reduceAdd,Af a,c,d,g,b,j]
          refine Good.mk [] kr ⟨[],_,_,by first | rfl | simp only [List.append_nil,List.nil_append]⟩ ?_ ?_
          ·intro _;refine ⟨_,_,B2 [4,5,7,9,40,41,42] (by first | (simp +decide only [go_sem,Nat.reduceAdd,Af a,c,d,g,b,j];done) | (simp +decide only [go_sem,Nat.reduceAdd,Af a,c,d,g,b,j];rfl)),?_⟩
           try simp +decide only [go_sem,Nat.reduceAdd,Af a,c,d,g,b,j]
           (repeat' apply And.intro)<;>first | refine a8 _ _ ⟨ch,bv,([.val (.int .i64 k.1)::(.val (.string k.2.1)::(.val (.int .i64 k.2.2.1)::((k.2.2.2.1.cs)++([.list (k.2.2.2.2.map A1) .none])))),.val (.int .i64 o.1.1)::(.val (.string o.1.2.1)::(.val (.int .i64 o.1.2.2.1)::((o.1.2.2.2.1.cs)++([.list (o.1.2.2.2.2.map A1) .none]))))]),Rg54,ef hs,ef hs,Owns.of_eq (l) EK,h⟩ | exact cl
          ·intro i hi;cases hi
   ·clear h;rintro e st ⟨K,aa,Xk20,Rk20,rfl,rfl,l,h⟩
    rw [Gi] at h
    have hU:=l.unders
    simp only [List.mem_cons,List.not_mem_nil,or_false,forall_eq_or_imp,forall_eq] at hU
    refine Ip hN ao ap HI (Ah (Fe v l.len) ow) l ow ow ?_
    obtain ⟨c8,h⟩:=Ac h
    refine rl [4,5,7,9,40,41,42] hs (fun e s=>Vl15 ml15 e s (Nat.lt_succ_self _)) ?_
    exact ⟨(q+1),K,aa,([]),Rk20,ef hs,ef hs,Owns.of_eq (l) EK,h⟩
  ·clear h;rintro e st ⟨U,Z,Xk12,Rk12,rfl,rfl,l,h⟩
   rw [HT] at h
   have hU:=l.unders
   simp only [List.mem_cons,List.not_mem_nil,or_false,forall_eq_or_imp,forall_eq] at hU
   refine Ip hN ao ap HI (Ah (Fe v l.len) ow) l ow ow ?_
   refine rg [5,7,9,96,97,98] hs ?_
   apply Ad
   refine Ap (fun m e st=>∃ (O:Int) (D:List (ByteArray × Int)) (E:Ev.Own) (Xl58:List (List AV)) (Rl58:List RowA),e=[(5,true,.box (B.length+1) 0),(7,true,.box (B.length+3) 0),(9,true,.clo 162 [.box (B.length+1) 0,.box (B.length+2) 0]),(96,true,.list (a0.fields.map Cd) .none),(97,true,.val (.int .i64 (a0.fields.length:Int))),(98,true,.val (.int .i64 O))]∧st=⟨(B.set p ([.list (D.map JA) E]))++([a0.cs,a1.cs,[.val (.string a2)],[.clo 96 [.box p 0]]]++Xl58),Rl58,L⟩∧Owns Rw Rl58 [(2,D.length,E)] ak∧DL rec n a0 a1 a2 m O D=some r) n ⟨0,U,Z,([]),Rk12,ef hs,ef hs,Owns.of_eq (l) EK,h⟩ ?_
   rintro ml58 e st ⟨O,D,E,Xl58,Rl58,rfl,rfl,l,h⟩ Ul58 Vl58
   cases ml58 with
   | zero=>cases h
   | succ ml58 =>
   rw [DL] at h
   have hU:=l.unders
   simp only [List.mem_cons,List.not_mem_nil,or_false,forall_eq_or_imp,forall_eq] at hU
   refine Ip hN ao ap HI (Ah (Fe v l.len) ow) l ow ow ?_
   refine rg [5,7,9,96,97,98,99] hs ?_
   apply Aa;intro K60 a9
   refine Av h hs (fun hs h=>?_) (fun hs h=>?_)
   rotate_left
   ·have ae:=hs.1
    refine DO (Do [] _) ?_ (Ba _ _)
    apply KE;simp +decide only [go_sem,Nat.reduceAdd]
    (repeat' with_reducible apply And.intro)<;>first | exact cl | skip
    have hgt:=Option.some.inj h;subst hgt
    have hU:=l.unders
    simp only [List.mem_cons,List.not_mem_nil,or_false,forall_eq_or_imp,forall_eq] at hU
    refine Ri l (Ah (Fe v l.len) ow) HI ev ⟨?_,_,_,?_,(l.sub (List.sublist_append_left [_] _)).len1 EK⟩
    all_goals first | rfl | (simp +decide only [go_sem,Nat.reduceAdd,Af a,c,d,ae];done) | (simp +decide only [go_sem,Nat.reduceAdd,Vl.cs,Ty.cs,Af a,c,d,ae];done)
   have ae:=hs.1
   refine sk [5,7,9,96,97,98] hs a9 ?_
   clear a9
   refine Ak (fun e st=>∃ (N:List (ByteArray × Int)) (Y:Ev.Own) (Xk63:List (List AV)) (Rk63:List RowA),e=[(5,true,.box (B.length+1) 0),(7,true,.box (B.length+3) 0),(9,true,.clo 162 [.box (B.length+1) 0,.box (B.length+2) 0]),(96,true,.list (a0.fields.map Cd) .none),(97,true,.val (.int .i64 (a0.fields.length:Int))),(98,true,.val (.int .i64 O))]∧st=⟨(B.set p ([.list (N.map JA) Y]))++([a0.cs,a1.cs,[.val (.string a2)],[.clo 96 [.box p 0]]]++Xk63),Rk63,L⟩∧Owns Rw Rk63 [(2,N.length,Y)] ak∧Ge rec n (DL rec n a0 a1 a2 ml58) O N=some r) ?_ ?_
   ·intro K64 bd
    apply Ad
    obtain ⟨af,cd,h⟩:=bind_some h
    obtain ⟨ci,cj,bh⟩:=Ao cd
    have J:=Aq (f:=Cd) bh
    have hs:=And.intro J hs
    refine rg [5,7,9,15,96,97,98] hs ?_
    obtain ⟨aj,bw,h⟩:=bind_some h
    refine rc 2 [5,7,9,15,17,96,97,98] hs ?_;intro K67 a7
    refine Ab _ (Ft w0 n _ _ _ a1.fields af.1 _ bw) (hv hs) ?_
    refine ne hs a7 ?_
    clear a7
    refine rg [5,7,9,15,96,97,98,111] hs ?_
    refine Av h hs (fun hs h=>?_) (fun hs h=>?_)
    ·have ai:=hs.1
     obtain ⟨cp,bt,h⟩:=bind_some h
     obtain ⟨c1,b4,h⟩:=bind_some h
     apply MC Gm [5] [5,7,9,96,97,98] kr (fun s=>∃ (X:List (List AV)) (rows:List RowA) (x:List AV),s=⟨(B.set p x)++([a0.cs,a1.cs,[.val (.string a2)],[.clo 96 [.box p 0]],.val (.int .i64 af.1)::(.val (.string af.2.1)::(.val (.int .i64 af.2.2.1)::((af.2.2.2.1.cs)++([.list (af.2.2.2.2.map A1) .none])))),.val (.int .i64 aj.1.1)::(.val (.string aj.1.2.1)::(.val (.int .i64 aj.1.2.2.1)::((aj.1.2.2.2.1.cs)++([.list (aj.1.2.2.2.2.map A1) .none]))))]++X),rows,L⟩) 2 (B.length+6)
     ·simp +decide only [go_sem,Nat.reduceAdd]
     ·rintro s ⟨X,rows,x,rfl⟩
      refine ⟨2,?_⟩
      rw [Ae];simp +decide only [go_sem,Nat.reduceAdd,DV,Af a,c,d,ae,J,ai]
      (repeat' apply And.intro)<;>first | refine Ab _ (Ec w0 _ _ _ af.2.1 (B.length+1) a1 (ef hs) (B.length+2) a2 (ef hs) _ bt) (hv hs) ?_ | exact cl
      rw [Ae];simp +decide only [go_sem,Nat.reduceAdd,Af a,c,d,ae,J,ai]
      (repeat' apply And.intro)<;>first | rfl | exact cl
     ·refine Good.mk [5] kr ⟨[],_,_,by first | rfl | simp only [List.append_nil,List.nil_append]⟩ ?_ ?_
      ·intro h;exact absurd h (by decide)
      ·intro i hi;simp only [List.mem_cons,List.not_mem_nil,or_false] at hi
       subst hi
       ·apply Jd rfl rfl ev rfl
        ·simp +decide only [go_sem,Nat.reduceAdd,Af a,c,d,ae,J,ai]
        ·simp +decide only [go_sem,Nat.reduceAdd,Af a,c,d,ae,J,ai]
        ·simp +decide only [go_sem,Nat.reduceAdd,Af a,c,d,ae,J,ai]
         exact (Ci w0 _ _ _ cp 2 p D E (ef hs) l.enter _ b4).pub (hv hs)
        ·rintro _ _ ⟨rfl,Rg73,ca,rfl,ar⟩
         have l:=l.call ar
         simp +decide only [go_sem,Nat.reduceAdd,Af a,c,d,ae,J,ai]
         refine Good.mk [] kr ⟨[],_,_,by first | rfl | simp only [List.append_nil,List.nil_append]⟩ ?_ ?_
         ·intro _;refine ⟨_,_,B2 [5,7,9,96,97,98] (by first | (simp +decide only [go_sem,Nat.reduceAdd,Af a,c,d,ae,J,ai];done) | (simp +decide only [go_sem,Nat.reduceAdd,Af a,c,d,ae,J,ai];rfl)),?_⟩
          try simp +decide only [go_sem,Nat.reduceAdd,Af a,c,d,ae,J,ai]
          (repeat' apply And.intro)<;>first | refine bd _ _ ⟨c1,ca,([.val (.int .i64 af.1)::(.val (.string af.2.1)::(.val (.int .i64 af.2.2.1)::((af.2.2.2.1.cs)++([.list (af.2.2.2.2.map A1) .none])))),.val (.int .i64 aj.1.1)::(.val (.string aj.1.2.1)::(.val (.int .i64 aj.1.2.2.1)::((aj.1.2.2.2.1.cs)++([.list (aj.1.2.2.2.2.map A1) .none]))))]),Rg73,ef hs,ef hs,Owns.of_eq (l) EK,h⟩ | exact cl
         ·intro i hi;cases hi
    have ai:=hs.1
    refine sk [5,7,9,96,97,98] hs bd ?_
    exact ⟨D,E,([.val (.int .i64 af.1)::(.val (.string af.2.1)::(.val (.int .i64 af.2.2.1)::((af.2.2.2.1.cs)++([.list (af.2.2.2.2.map A1) .none])))),.val (.int .i64 aj.1.1)::(.val (.string aj.1.2.1)::(.val (.int .i64 aj.1.2.2.1)::((aj.1.2.2.2.1.cs)++([.list (aj.1.2.2.2.2.map A1) .none]))))]),Rl58,ef hs,ef hs,Owns.of_eq (l) EK,h⟩
   ·clear h;rintro e st ⟨N,Y,Xk63,Rk63,rfl,rfl,l,h⟩
    rw [Ge] at h
    have hU:=l.unders
    simp only [List.mem_cons,List.not_mem_nil,or_false,forall_eq_or_imp,forall_eq] at hU
    refine Ip hN ao ap HI (Ah (Fe v l.len) ow) l ow ow ?_
    obtain ⟨c7,h⟩:=Ac h
    refine rl [5,7,9,96,97,98] hs (fun e s=>Vl58 ml58 e s (Nat.lt_succ_self _)) ?_
    exact ⟨(O+1),N,Y,([]),Rk63,ef hs,ef hs,Owns.of_eq (l) EK,h⟩
 have d:=hs.1
 refine rg [4,5,6,7,8,119] hs ?_
 refine Av h hs (fun hs h=>?_) (fun hs h=>?_)
 ·have w:=hs.1
  refine Ak (fun e st=>∃ (V:List (ByteArray × Int)) (ab:Ev.Own) (Xk79:List (List AV)) (Rk79:List RowA),e=[(4,true,.box B.length 0),(5,true,.box (B.length+1) 0),(6,true,.box (B.length+2) 0),(7,true,.box (B.length+3) 0)]∧st=⟨(B.set p ([.list (V.map JA) ab]))++([a0.cs,a1.cs,[.val (.string a2)],[.clo 96 [.box p 0]]]++Xk79),Rk79,L⟩∧Owns Rw Rk79 [(2,V.length,ab)] ak∧F8 rec n a0 a1 a2 V=some r) ?_ ?_
  ·intro K80 be
   refine rg [4,5,6,7,8,134] hs ?_
   refine Av h hs (fun hs h=>?_) (fun hs h=>?_)
   ·obtain ⟨cf,b3,h⟩:=bind_some h
    refine rk 3 [4,5,6,7] hs ?_
    refine Ab _ (Es w0 _ _ _ a0 a1) (hv hs) ?_
    refine nc hs ?_
    refine Bo _ (JQ w0 _ _ _ (CL a0 a1) p a3 ak (ef hs) l.enter (B.length+3) (ef hs) (B.length+2) a2 (ef hs) _ b3) (hv hs) ?_;rintro _ _ ⟨rfl,Rg84,bp,rfl,au⟩
    have l:=l.call au
    refine ne hs be ?_
    exact ⟨cf,bp,([]),Rg84,ef hs,ef hs,Owns.of_eq (l) EK,h⟩
   refine sk [4,5,6,7] hs be ?_
   exact ⟨a3,ak,([]),Rw,ef hs,ef hs,Owns.of_eq (l) EK,h⟩
  ·clear h;rintro e st ⟨V,ab,Xk79,Rk79,rfl,rfl,l,h⟩
   rw [F8] at h
   have hU:=l.unders
   simp only [List.mem_cons,List.not_mem_nil,or_false,forall_eq_or_imp,forall_eq] at hU
   refine Ip hN ao ap HI (Ah (Fe v l.len) ow) l ow ow ?_
   obtain ⟨c2,cn,cw,y,h⟩:=ix HK h
   have H:(a0.elem.map HK).getD 0 .junk=_:=y
   obtain ⟨c4,cy,c0,z,h⟩:=ix HK h
   have F:(a1.elem.map HK).getD 0 .junk=_:=z
   obtain ⟨cc,h⟩:=Ac h
   have bj:=cc
   try simp +decide only [go_sem] at bj
   obtain ⟨db,b7,h⟩:=bind_some h
   apply MC Gm [11] [] kr (fun s=>∃ (X:List (List AV)) (rows:List RowA) (x:List AV),s=⟨(B.set p x)++([a0.cs,a1.cs,[.val (.string a2)],[.clo 96 [.box p 0]]]++X),rows,L⟩) 2 (B.length+4)
   ·simp +decide only [go_sem,Nat.reduceAdd]
   ·rintro s ⟨X,rows,x,rfl⟩
    refine ⟨1,?_⟩
    rw [Ae];simp +decide only [go_sem,Nat.reduceAdd,DV,Af a,c,d,w,y,H,z,F]
    (repeat' apply And.intro)<;>first | rfl | exact cl
   ·refine Good.mk [11] kr ⟨[],_,_,by first | rfl | simp only [List.append_nil,List.nil_append]⟩ ?_ ?_
    ·intro h;exact absurd h (by decide)
    ·intro i hi;simp only [List.mem_cons,List.not_mem_nil,or_false] at hi
     subst hi
     ·apply Jd rfl rfl ev rfl
      ·simp +decide only [go_sem,Nat.reduceAdd,Af a,c,d,w,y,H,z,F]
      ·simp +decide only [go_sem,Nat.reduceAdd,Af a,c,d,w,y,H,z,F]
      ·simp +decide only [go_sem,Nat.reduceAdd,Af a,c,d,w,y,H,z,F]
       have hs:=And.intro y hs
       have hs:=And.intro H hs
       have hs:=And.intro z hs
       have hs:=And.intro F hs
       exact (ih _ _ _ c2 c4 (a2++((⟨#[91,42,93]⟩:ByteArray))) p V ab (ef hs) l.enter _ b7).pub (hv hs)
      ·rintro _ _ ⟨rfl,Rg90,c5,rfl,ay⟩
       have l:=l.call ay
       simp +decide only [go_sem,Nat.reduceAdd,Af a,c,d,w,y,H,z,F]
       refine Good.mk [] kr ⟨[],_,_,by first | rfl | simp only [List.append_nil,List.nil_append]⟩ ?_ ?_
       ·intro _;refine ⟨_,_,B2 [] (by first | (simp +decide only [go_sem,Nat.reduceAdd,Af a,c,d,w,y,H,z,F];done) | (simp +decide only [go_sem,Nat.reduceAdd,Af a,c,d,w,y,H,z,F];rfl)),?_⟩
        try simp +decide only [go_sem,Nat.reduceAdd,Af a,c,d,w,y,H,z,F]
        (repeat' with_reducible apply And.intro)<;>first | exact cl | skip
        have hgt:=Option.some.inj h;subst hgt
        have hU:=l.unders
        simp only [List.mem_cons,List.not_mem_nil,or_false,forall_eq_or_imp,forall_eq] at hU
        refine Ri l (Ah (Fe v l.len) ow) HI ev ⟨?_,_,_,?_,(l.sub (List.sublist_append_left [_] _)).len1 EK⟩
        all_goals first | rfl | (simp +decide only [go_sem,Nat.reduceAdd,Af a,c,d,w,y,H,z,F];done) | (simp +decide only [go_sem,Nat.reduceAdd,Vl.cs,Ty.cs,Af a,c,d,w,y,H,z,F];done)
       ·intro i hi;cases hi
 have w:=hs.1
 obtain ⟨c9,b9,h⟩:=bind_some h
 refine rc 2 [4,5,8,152] hs ?_;intro K92 bf
 refine Ab _ (UZ w0 n _ _ _ a0 a1 _ b9) (hv hs) ?_
 refine ne hs bf ?_
 clear bf
 refine Av h hs (fun hs h=>?_) (fun hs h=>?_)
 ·have am:=hs.1
  obtain ⟨cz,br,h⟩:=bind_some h
  obtain ⟨dc,b0,h⟩:=bind_some h
  apply Ag 3 []
  rw [Ae];simp +decide only [go_sem,Nat.reduceAdd,Af a,c,d,w,am]
  (repeat' apply And.intro)<;>first | refine Ab _ (He w0 n _ _ _ a0 a1 _ br) (hv hs) ?_ | exact cl
  rw [Ae];simp +decide only [go_sem,Nat.reduceAdd,Af a,c,d,w,am]
  (repeat' apply And.intro)<;>first | (refine Bo _ (JQ w0 _ _ _ cz p a3 ak (ef hs) l.enter (B.length+3) (ef hs) (B.length+2) a2 (ef hs) _ b0) (hv hs) ?_;rintro _ _ ⟨rfl,Rg97,c6,rfl,aw⟩) | exact cl
  have l:=l.call aw
  rw [Ae];simp +decide only [go_sem,Nat.reduceAdd,Af a,c,d,w,am]
  (repeat' with_reducible apply And.intro)<;>first | exact cl | skip
  have hgt:=Option.some.inj h;subst hgt
  have hU:=l.unders
  simp only [List.mem_cons,List.not_mem_nil,or_false,forall_eq_or_imp,forall_eq] at hU
  refine Ri l (Ah (Fe v l.len) ow) HI ev ⟨?_,_,_,?_,(l.sub (List.sublist_append_left [_] _)).len1 EK⟩
  all_goals first | rfl | (simp +decide only [go_sem,Nat.reduceAdd,Af a,c,d,w,am];done) | (simp +decide only [go_sem,Nat.reduceAdd,Vl.cs,Ty.cs,Af a,c,d,w,am];done)
 have am:=hs.1
 refine DO (Do [] _) ?_ (Ba _ _)
 apply Bd;simp +decide only [go_sem,Nat.reduceAdd]
 (repeat' with_reducible apply And.intro)<;>first | exact cl | skip
 have hgt:=Option.some.inj h;subst hgt
 have hU:=l.unders
 simp only [List.mem_cons,List.not_mem_nil,or_false,forall_eq_or_imp,forall_eq] at hU
 refine Ri l (Fe v l.len) rfl ev ⟨?_,_,_,?_,(l.sub (List.sublist_append_left [_] _)).len1 EK⟩
 all_goals first | rfl | (simp +decide only [go_sem,Nat.reduceAdd,Af a,c,d,w,am];done) | (simp +decide only [go_sem,Nat.reduceAdd,Vl.cs,Ty.cs,Af a,c,d,w,am];done)
theorem Lt (w0:World):∀ n:Nat,IU w0 (Ho n)
 | 0=>fun _ _ _ _ _ _ _ _ _ _ _ _ h=>(nomatch h)
 | n+1=>O7 w0 (Ho n) (Lt w0 n) n
def Ja (n:Nat) (h:Ty) (g:Ty):Option ((List (ByteArray × Int)) × Int) :=
 (Dn n h g).bind fun q =>
 if !(decide (q=0)) then
  some (([],q))
 else
  (Ho n h g ((⟨#[]⟩:ByteArray)) ([])).bind fun b =>
  some ((b,0))
theorem Qo (w0:World) (hT:Lib.Utf8Tabs 0 1 w0) (n:Nat) (B:List (List AV)) (Rw:List RowA) (L:List LoopA) (a0:Ty) (a1:Ty) (r:(List (ByteArray × Int)) × Int) (h:Ja n a0 a1=some r) :
  ACalls Tryz.prog w0 42 [.agg (a0.cs),.agg (a1.cs)] ⟨B,Rw,L⟩ fun x st=>x = .tup [.list (r.1.map JA) .none,.val (.int .i64 r.2)]∧st=⟨B,Rw,L⟩:=by
 rw [Ja] at h
 refine hd [.tmp 4,.tmp 5] Tryz.func42 Tryz.ntmps42 fun M0 W0 p m k a o c hs=>?_
 simp only [Am]
 refine rg [2,3] hs ?_
 apply Aa;intro K2 g
 obtain ⟨q,i,h⟩:=bind_some h
 refine rc 2 [2,3,6] hs ?_;intro K3 d
 refine Ab _ (HH w0 hT n _ _ _ a0 a1 _ i) (hv hs) ?_
 refine ne hs d ?_
 clear d
 refine rg [2,3,6,12] hs ?_
 refine Av h hs (fun hs h=>?_) (fun hs h=>?_)
 ·refine rg [4,5] hs ?_
  exact rt h hs a c
 refine sk [2,3] hs g ?_
 clear g
 refine rg [2,3,7] hs ?_
 have c:=c.full 2 0
 obtain ⟨l,e,h⟩:=bind_some h
 refine rc 2 [7] hs ?_;intro K9 f
 refine Bo _ (Lt w0 n _ _ _ a0 a1 ((⟨#[]⟩:ByteArray)) (B.length+2) ([]) .full (ef hs) c.enter _ e) (hv hs) ?_;rintro _ _ ⟨rfl,Rg12,j,rfl,b⟩
 have c:=c.call b
 refine ne hs f ?_
 clear f
 refine rg [4,5] hs ?_
 exact rt h hs a c
def Gl  : Ty :=
 Ty.mk 9 0 0 0 ([]) ([]) ([(2,(⟨#[114,101,109,97,114,107]⟩:ByteArray),2,Ty.mk 4 0 40 0 ([]) ([]) ([]),[]),(1,(⟨#[105,100]⟩:ByteArray),1,Ty.mk 3 0 9999 2 ([]) ([]) ([]),[]),(3,(⟨#[107,105,110,100]⟩:ByteArray),3,Ty.mk 4 0 0 0 ([(⟨#[97]⟩:ByteArray),(⟨#[98]⟩:ByteArray)]) ([]) ([]),[Vl.mk 4 0 0 ((⟨#[97]⟩:ByteArray)) ([]) ([])])])
theorem Vn (w0:World) (B:List (List AV)) (Rw:List RowA) (L:List LoopA)  (r:Ty) (h:Gl  = r) :
  ACalls Tryz.prog w0 73 [] ⟨B,Rw,L⟩ fun x st=>x = .agg (r.cs)∧st=⟨B,Rw,L⟩:=by
 rw [Gl] at h
 refine hd [.cell 0 26] Tryz.func73 Tryz.ntmps73 fun M0 W0 e d c a f b hs=>?_
 simp only [Am]
 refine rg [0] hs ?_
 refine rg [0,1] hs ?_
 refine rg [0] hs ?_
 exact rT h hs a b
theorem Om (w0:World) (B:List (List AV)) (Rw:List RowA) (L:List LoopA)  :
  ACalls Tryz.prog w0 73 [] ⟨B,Rw,L⟩ fun x st=>x = .agg ((Gl ).cs)∧st=⟨B,Rw,L⟩:=Vn w0 B Rw L  _ rfl
def F4  : Ty :=
 Ty.mk 9 0 0 0 ([]) ([]) ([(1,(⟨#[105,100]⟩:ByteArray),1,Ty.mk 2 0 99 0 ([]) ([]) ([]),[]),(2,(⟨#[110,111,116,101]⟩:ByteArray),2,Ty.mk 4 0 20 0 ([]) ([]) ([]),[])])
theorem Vx (w0:World) (B:List (List AV)) (Rw:List RowA) (L:List LoopA)  (r:Ty) (h:F4  = r) :
  ACalls Tryz.prog w0 72 [] ⟨B,Rw,L⟩ fun x st=>x = .agg (r.cs)∧st=⟨B,Rw,L⟩:=by
 rw [F4] at h
 refine hd [.cell 0 26] Tryz.func72 Tryz.ntmps72 fun M0 W0 e d c a f b hs=>?_
 simp only [Am]
 refine rg [0] hs ?_
 refine rg [0] hs ?_
 exact rT h hs a b
theorem Ot (w0:World) (B:List (List AV)) (Rw:List RowA) (L:List LoopA)  :
  ACalls Tryz.prog w0 72 [] ⟨B,Rw,L⟩ fun x st=>x = .agg ((F4 ).cs)∧st=⟨B,Rw,L⟩:=Vx w0 B Rw L  _ rfl
def Gh (n:Nat)  : Option Bool :=
 (En n (F4 ) (Gl ) (Vl.mk 9 0 0 ((⟨#[]⟩:ByteArray)) ([]) ([((⟨#[105,100]⟩:ByteArray),Vl.mk 2 5 0 ((⟨#[]⟩:ByteArray)) ([]) ([])),((⟨#[110,111,116,101]⟩:ByteArray),Vl.mk 4 0 0 ((⟨#[120]⟩:ByteArray)) ([]) ([]))]))).bind fun g =>
 (Ja n (F4 ) (Gl )).bind fun q =>
 if (decide (g.2=0))&&(decide ((g.1.fields.length:Int)=3)) then
  (Cb g.1.fields 0).bind fun x9 =>
  if Dz x9.1 ((⟨#[105,100]⟩:ByteArray)) then
   if decide (x9.2.int=500) then
    (Cb g.1.fields 1).bind fun y =>
    if Dz y.2.text ((⟨#[97]⟩:ByteArray)) then
     (Cb g.1.fields 2).bind fun s =>
     if ((Dz s.1 ((⟨#[114,101,109,97,114,107]⟩:ByteArray)))&&(decide (q.2=0)))&&(decide ((q.1.length:Int)=4)) then
      (Cb q.1 0).bind fun h =>
      if Dz h.1 ((⟨#[114,101,109,97,114,107]⟩:ByteArray))&&(decide (h.2=3)) then
       (Cb q.1 3).bind fun b =>
       some (Dz b.1 ((⟨#[107,105,110,100]⟩:ByteArray))&&(decide (b.2=1)))
      else
       some (false)
     else
      some (false)
    else
     some (false)
   else
    some (false)
  else
   some (false)
 else
  some (false)
theorem FT (w0:World) (hP:Pow10 w0) (hT:Lib.Utf8Tabs 0 1 w0) (n:Nat) (B:List (List AV)) (Rw:List RowA) (L:List LoopA)  (r:Bool) (h:Gh n  = some r) :
  ACalls Tryz.prog w0 26 [] ⟨B,Rw,L⟩ fun x st=>x = .val (.bool r)∧st=⟨B,Rw,L⟩:=by
 rw [Gh] at h
 refine hd [.tmp 0] Tryz.func26 Tryz.ntmps26 fun M0 W0 hN aa Y a hu p hs=>?_
 simp only [Am]
 refine rg [] hs ?_
 refine rg [1] hs ?_
 apply Aa;intro K3 t
 obtain ⟨u,G,h⟩:=bind_some h
 apply GI Gm [7,8] [2,3] kr (fun s=>∃ (X:List (List AV)) (rows:List RowA),s=⟨B++([[.val (.int .i64 9),.val (.int .i64 0),.val (.int .i64 0),.val (.string ((⟨#[]⟩:ByteArray))),.list ([]) .full,.list (([((⟨#[105,100]⟩:ByteArray),Vl.mk 2 5 0 ((⟨#[]⟩:ByteArray)) ([]) ([])),((⟨#[110,111,116,101]⟩:ByteArray),Vl.mk 4 0 0 ((⟨#[120]⟩:ByteArray)) ([]) ([]))]).map BI) .full]]++X),rows,L⟩) 3 (B.length+1)
 ·simp +decide only [go_sem,Nat.reduceAdd]
 ·rintro s ⟨X,rows,rfl⟩
  refine ⟨4,?_⟩
  rw [Ae];simp +decide only [go_sem,Nat.reduceAdd,DV]
  (repeat' apply And.intro)<;>first | refine Ab _ (Ot w0 _ _ _ ) (hv hs) ?_ | exact cl
  rw [Ae];simp +decide only [go_sem,Nat.reduceAdd]
  (repeat' apply And.intro)<;>first | refine Ab _ (Om w0 _ _ _ ) (hv hs) ?_ | exact cl
  rw [Ae];simp +decide only [go_sem,Nat.reduceAdd]
  (repeat' apply And.intro)<;>first | refine Ab _ (LC w0 hP hT n _ _ _ (F4 ) (Gl ) (Vl.mk 9 0 0 ((⟨#[]⟩:ByteArray)) ([]) ([((⟨#[105,100]⟩:ByteArray),Vl.mk 2 5 0 ((⟨#[]⟩:ByteArray)) ([]) ([])),((⟨#[110,111,116,101]⟩:ByteArray),Vl.mk 4 0 0 ((⟨#[120]⟩:ByteArray)) ([]) ([]))])) _ G) (hv hs) ?_ | exact cl
  rw [Ae];simp +decide only [go_sem,Nat.reduceAdd]
  (repeat' apply And.intro)<;>first | rfl | exact cl
 ·refine Good.mk [7] kr ⟨[],_,by first | rfl | simp only [List.append_nil,List.nil_append]⟩ ?_ ?_
  ·intro h;exact absurd h (by decide)
  ·intro i hi;simp only [List.mem_cons,List.not_mem_nil,or_false] at hi
   subst hi
   ·apply BF rfl rfl ev
    ·simp +decide only [go_sem,Nat.reduceAdd,DK]
     (repeat' apply And.intro)<;>first | rfl | exact cl
    ·simp +decide only [go_sem,Nat.reduceAdd]
     refine Good.mk [8] kr ⟨_,_,by first | rfl | simp only [List.append_nil,List.nil_append]⟩ ?_ ?_
     ·intro h;exact absurd h (by decide)
     ·intro i hi;simp only [List.mem_cons,List.not_mem_nil,or_false] at hi
      subst hi
      ·apply BF rfl rfl ev
       ·simp +decide only [go_sem,Nat.reduceAdd,DK]
        (repeat' apply And.intro)<;>first | rfl | exact cl
       ·simp +decide only [go_sem,Nat.reduceAdd]
        refine Good.mk [] kr ⟨_,_,by first | rfl | simp only [List.append_nil,List.nil_append]⟩ ?_ ?_
        ·intro _;apply B2 [2,3];first | (simp +decide only [go_sem,Nat.reduceAdd];done) | (simp +decide only [go_sem,Nat.reduceAdd];rfl)
        ·intro i hi;cases hi
 simp +decide only [go_sem,Nat.reduceAdd]
 (repeat' apply And.intro)<;>first | refine t _ _ ?_ | exact cl
 clear t
 obtain ⟨w,y,h⟩:=bind_some h
 refine rc 4 [2,3,4,5] hs ?_;intro K5 v
 refine Ab _ (Ot w0 _ _ _ ) (hv hs) ?_
 refine nc hs ?_
 refine Ab _ (Om w0 _ _ _ ) (hv hs) ?_
 refine nc hs ?_
 refine Ab _ (Qo w0 hT n _ _ _ (F4 ) (Gl ) _ y) (hv hs) ?_
 refine ne hs v ?_
 clear v
 apply Aa;intro K7 b
 rcases Bool.eq_false_or_eq_true ((decide (u.2=0))&&(decide ((u.1.fields.length:Int)=3))) with hf8 | hf8
 ·replace h:=AO h hf8
  obtain ⟨U,Q,V,c,h⟩:=ix BI h
  have e:(u.1.fields.map BI).getD 0 .junk=_:=c
  rcases Bool.eq_false_or_eq_true (Dz U.1 ((⟨#[105,100]⟩:ByteArray))) with hf10 | hf10
  ·replace h:=AO h hf10
   rcases Bool.eq_false_or_eq_true (decide (U.2.int=500)) with hf11 | hf11
   ·replace h:=AO h hf11
    obtain ⟨J,N,E,d,h⟩:=ix BI h
    have f:(u.1.fields.map BI).getD 1 .junk=_:=d
    rcases Bool.eq_false_or_eq_true (Dz J.2.text ((⟨#[97]⟩:ByteArray))) with hf13 | hf13
    ·replace h:=AO h hf13
     obtain ⟨F,K,C,g,h⟩:=ix BI h
     have k:(u.1.fields.map BI).getD 2 .junk=_:=g
     rcases Bool.eq_false_or_eq_true (((Dz F.1 ((⟨#[114,101,109,97,114,107]⟩:ByteArray)))&&(decide (w.2=0)))&&(decide ((w.1.length:Int)=4))) with hf15 | hf15
     ·replace h:=AO h hf15
      obtain ⟨q,H,O,j,h⟩:=ix JA h
      have m:(w.1.map JA).getD 0 .junk=_:=j
      rcases Bool.eq_false_or_eq_true (Dz q.1 ((⟨#[114,101,109,97,114,107]⟩:ByteArray))&&(decide (q.2=3))) with hf17 | hf17
      ·replace h:=AO h hf17
       obtain ⟨Z,z,D,l,h⟩:=ix JA h
       have o:(w.1.map JA).getD 3 .junk=_:=l
       have hs:=And.intro hf8 hs
       have hs:=And.intro c hs
       have hs:=And.intro e hs
       have hs:=And.intro hf10 hs
       have hs:=And.intro hf11 hs
       have hs:=And.intro d hs
       have hs:=And.intro f hs
       have hs:=And.intro hf13 hs
       have hs:=And.intro g hs
       have hs:=And.intro k hs
       have hs:=And.intro hf15 hs
       have hs:=And.intro j hs
       have hs:=And.intro m hs
       have hs:=And.intro hf17 hs
       have hs:=And.intro l hs
       have hs:=And.intro o hs
       refine rl [0] (al hs) b ?_
       clear b
       exact rt h hs a p
      ·replace h:=AN h hf17
       have hs:=And.intro hf8 hs
       have hs:=And.intro c hs
       have hs:=And.intro e hs
       have hs:=And.intro hf10 hs
       have hs:=And.intro hf11 hs
       have hs:=And.intro d hs
       have hs:=And.intro f hs
       have hs:=And.intro hf13 hs
       have hs:=And.intro g hs
       have hs:=And.intro k hs
       have hs:=And.intro hf15 hs
       have hs:=And.intro j hs
       have hs:=And.intro m hs
       have hs:=And.intro hf17 hs
       refine rl [0] (al hs) b ?_
       clear b
       exact rt h hs a p
     ·replace h:=AN h hf15
      have hs:=And.intro hf8 hs
      have hs:=And.intro c hs
      have hs:=And.intro e hs
      have hs:=And.intro hf10 hs
      have hs:=And.intro hf11 hs
      have hs:=And.intro d hs
      have hs:=And.intro f hs
      have hs:=And.intro hf13 hs
      have hs:=And.intro g hs
      have hs:=And.intro k hs
      have hs:=And.intro hf15 hs
      refine rl [0] (al hs) b ?_
      clear b
      exact rt h hs a p
    ·replace h:=AN h hf13
     have hs:=And.intro hf8 hs
     have hs:=And.intro c hs
     have hs:=And.intro e hs
     have hs:=And.intro hf10 hs
     have hs:=And.intro hf11 hs
     have hs:=And.intro d hs
     have hs:=And.intro f hs
     have hs:=And.intro hf13 hs
     refine rl [0] (al hs) b ?_
     clear b
     exact rt h hs a p
   ·replace h:=AN h hf11
    have hs:=And.intro hf8 hs
    have hs:=And.intro c hs
    have hs:=And.intro e hs
    have hs:=And.intro hf10 hs
    have hs:=And.intro hf11 hs
    refine rl [0] (al hs) b ?_
    clear b
    exact rt h hs a p
  ·replace h:=AN h hf10
   have hs:=And.intro hf8 hs
   have hs:=And.intro c hs
   have hs:=And.intro e hs
   have hs:=And.intro hf10 hs
   refine rl [0] (al hs) b ?_
   clear b
   exact rt h hs a p
 ·replace h:=AN h hf8
  have hs:=And.intro hf8 hs
  refine rl [0] (al hs) b ?_
  clear b
  exact rt h hs a p
theorem Zdt (m:Nat):Gh (m+100)=some true:=by kernel_rfl
theorem ZbP (n:Nat) (h:100≤n):Gh n=some true:=by
 obtain ⟨m,rfl⟩:∃ m,n=m+100:=⟨n-100,by omega⟩
 exact Zdt m
@[go_sem] theorem Zk5 (a b:Ty):List.take 14 (a.cs++b.cs)=a.cs++b.cs:=List.take_of_length_le (by simp [Ty.cs_length])
@[go_sem] theorem Zmv (a b:Ty):List.map AV.pubCell (a.cs++b.cs)=a.cs++b.cs:=by rw [List.map_append,Ty.cs_pub,Ty.cs_pub]
theorem Z9 (n:Nat) (v:Vl) (h:v.size≤4096) (hn:10000≤n):Ia n v v=some true:=by
 obtain ⟨c,e,a⟩:=ZbU n v v (by omega) (by omega)
 rw [e,a.2 rfl]
def Fb (n:Nat) (g:Ty) (b:Ty):Option Bool :=
 (Dn n g b).bind fun q =>
 if decide (q=0) then
  (AD n g b).bind fun h =>
  some (h)
 else
  some (false)
theorem Oe (w0:World) (hT:Lib.Utf8Tabs 0 1 w0) (n:Nat) (B:List (List AV)) (Rw:List RowA) (L:List LoopA) (a0:Ty) (a1:Ty) (r:Bool) (h:Fb n a0 a1=some r) :
  ACalls Tryz.prog w0 36 [.agg (a0.cs),.agg (a1.cs)] ⟨B,Rw,L⟩ fun x st=>x = .val (.bool r)∧st=⟨B,Rw,L⟩:=by
 rw [Fb] at h
 refine hd [.tmp 4] Tryz.func36 Tryz.ntmps36 fun M0 W0 k i f a j e hs=>?_
 simp only [Am]
 refine rg [2,3] hs ?_
 apply Aa;intro K2 b
 obtain ⟨g,c,h⟩:=bind_some h
 rcases Bool.eq_false_or_eq_true (decide (g=0)) with hf4 | hf4
 ·replace h:=AO h hf4
  obtain ⟨l,d,h⟩:=bind_some h
  have hs:=And.intro hf4 hs
  refine rk 3 [4] hs ?_
  refine Ab _ (HH w0 hT n _ _ _ a0 a1 _ c) (hv hs) ?_
  refine nc hs ?_
  refine Ab _ (He w0 n _ _ _ a0 a1 _ d) (hv hs) ?_
  refine ne hs b ?_
  clear b
  exact rt h hs a e
 ·replace h:=AN h hf4
  have hs:=And.intro hf4 hs
  refine rk 3 [4] hs ?_
  refine Ab _ (HH w0 hT n _ _ _ a0 a1 _ c) (hv hs) ?_
  refine nc hs ?_
  refine As ?_
  refine ne hs b ?_
  clear b
  exact rt h hs a e
def G5 (n:Nat) (b:Ty × Ty):Option Bool :=
 (GT n b.1).bind fun h =>
 if h then
  (GT n b.2).bind fun q =>
  if q then
   (EQ n b.1).bind fun s =>
   if decide (s=0) then
    (EQ n b.2).bind fun g =>
    some (decide (g=0))
   else
    some (false)
  else
   some (false)
 else
  some (false)
theorem SN (w0:World) (hT:Lib.Utf8Tabs 0 1 w0) (n:Nat) (B:List (List AV)) (Rw:List RowA) (L:List LoopA) (a0:Ty × Ty) (r:Bool) (h:G5 n a0=some r) :
  ACalls Tryz.prog w0 37 [.agg ((a0.1.cs)++(a0.2.cs))] ⟨B,Rw,L⟩ fun x st=>x = .val (.bool r)∧st=⟨B,Rw,L⟩:=by
 rw [G5] at h
 refine hd [.tmp 2] Tryz.func37 Tryz.ntmps37 fun M0 W0 q j i a o f hs=>?_
 simp only [Am]
 refine rg [1] hs ?_
 apply Aa;intro K2 b
 obtain ⟨k,c,h⟩:=bind_some h
 rcases Bool.eq_false_or_eq_true (k) with hf4 | hf4
 ·replace h:=AO h hf4
  obtain ⟨m,d,h⟩:=bind_some h
  rcases Bool.eq_false_or_eq_true (m) with hf6 | hf6
  ·replace h:=AO h hf6
   obtain ⟨l,e,h⟩:=bind_some h
   rcases Bool.eq_false_or_eq_true (decide (l=0)) with hf8 | hf8
   ·replace h:=AO h hf8
    obtain ⟨p,g,h⟩:=bind_some h
    have hs:=And.intro hf4 hs
    have hs:=And.intro hf6 hs
    have hs:=And.intro hf8 hs
    refine rk 5 [2] hs ?_
    refine Ab _ (Du w0 n _ _ _ a0.1 _ c) (hv hs) ?_
    refine nc hs ?_
    refine Ab _ (Du w0 n _ _ _ a0.2 _ d) (hv hs) ?_
    refine nc hs ?_
    refine Ab _ (Ku w0 hT n _ _ _ a0.1 _ e) (hv hs) ?_
    refine nc hs ?_
    refine Ab _ (Ku w0 hT n _ _ _ a0.2 _ g) (hv hs) ?_
    refine ne hs b ?_
    clear b
    exact rt h hs a f
   ·replace h:=AN h hf8
    have hs:=And.intro hf4 hs
    have hs:=And.intro hf6 hs
    have hs:=And.intro hf8 hs
    refine rk 5 [2] hs ?_
    refine Ab _ (Du w0 n _ _ _ a0.1 _ c) (hv hs) ?_
    refine nc hs ?_
    refine Ab _ (Du w0 n _ _ _ a0.2 _ d) (hv hs) ?_
    refine nc hs ?_
    refine Ab _ (Ku w0 hT n _ _ _ a0.1 _ e) (hv hs) ?_
    refine nc hs ?_
    refine As ?_
    refine ne hs b ?_
    clear b
    exact rt h hs a f
  ·replace h:=AN h hf6
   have hs:=And.intro hf4 hs
   have hs:=And.intro hf6 hs
   refine rk 5 [2] hs ?_
   refine Ab _ (Du w0 n _ _ _ a0.1 _ c) (hv hs) ?_
   refine nc hs ?_
   refine Ab _ (Du w0 n _ _ _ a0.2 _ d) (hv hs) ?_
   refine nc hs ?_
   refine As ?_
   refine nc hs ?_
   refine As ?_
   refine ne hs b ?_
   clear b
   exact rt h hs a f
 ·replace h:=AN h hf4
  have hs:=And.intro hf4 hs
  refine rk 5 [2] hs ?_
  refine Ab _ (Du w0 n _ _ _ a0.1 _ c) (hv hs) ?_
  refine nc hs ?_
  refine As ?_
  refine nc hs ?_
  refine As ?_
  refine nc hs ?_
  refine As ?_
  refine ne hs b ?_
  clear b
  exact rt h hs a f
def ED (n:Nat) (b:Ty × Ty) (a1:Vl):Option Bool :=
 (Gh n ).bind fun y4 =>
 if !y4 then
  (Gh n ).bind fun y8 =>
  some (y8)
 else
  (GT n b.1).bind fun y9 =>
  if !y9 then
   (Gh n ).bind fun y13 =>
   some (y13)
  else
   (GT n b.2).bind fun y14 =>
   if !y14 then
    (Gh n ).bind fun y18 =>
    some (y18)
   else
    (N7 a1).bind fun y19 =>
    if !y19 then
     (Gh n ).bind fun y22 =>
     some (y22)
    else
     (Fb n b.1 b.2).bind fun h =>
     (G5 n b).bind fun y27 =>
     if !y27 then
      some (!h)
     else
      (Gp n b.1 b.2).bind fun y32 =>
      if h != y32 then
       some (false)
      else
       (Ez n b.1 a1).bind fun y =>
       if (!h)||(!(decide (y.2=0))) then
        some (true)
       else
        (Hk n b.1 b.2 y.1).bind fun q =>
        if !q.2 then
         some (false)
        else
         (EO n q.1).bind fun y49 =>
         if !(decide (y49=0)) then
          some (true)
         else
          (En n b.1 b.2 a1).bind fun g =>
          (Ez n b.2 g.1).bind fun s =>
          if decide (g.2=0) then
           (IY n b.2 g.1).bind fun y58 =>
           if y58&&(decide (s.2=0)) then
            (Ia n s.1 g.1).bind fun y60 =>
            some (y60)
           else
            some (false)
          else
           some (false)
theorem Ns (w0:World) (hP:Pow10 w0) (hT:Lib.Utf8Tabs 0 1 w0) (n:Nat) (B:List (List AV)) (Rw:List RowA) (L:List LoopA) (a0:Ty × Ty) (a1:Vl) (r:Bool) (h:ED n a0 a1=some r) :
  ACalls Tryz.prog w0 7 [.agg ((a0.1.cs)++(a0.2.cs)),.agg (a1.cs)] ⟨B,Rw,L⟩ fun x st=>x = .val (.bool r)∧st=⟨B,Rw,L⟩:=by
 rw [ED] at h
 refine hd [.tmp 4] Tryz.func7 Tryz.ntmps7 fun M0 W0 hN ay ak a hu d hs=>?_
 simp only [Am]
 refine rg [2,3] hs ?_
 apply Aa;intro K2 ab
 apply Aa;intro K3 c
 obtain ⟨y4,f,h⟩:=bind_some h
 rcases Bool.eq_false_or_eq_true (!y4) with hf5 | hf5
 ·replace h:=AO h hf5
  have hs:=And.intro hf5 hs
  refine rk 5 [2,3,32] hs ?_
  refine Ab _ (FT w0 hP hT n _ _ _  _ f) (hv hs) ?_
  refine nc hs ?_
  refine As ?_
  refine nc hs ?_
  refine As ?_
  refine nc hs ?_
  refine As ?_
  refine ne hs c ?_
  clear c
  refine AP true ev (ef hs) (fun hb6=>?_) (fun hb6=>by cases hb6)
  obtain ⟨y8,ah,h⟩:=bind_some h
  refine rc 2 [4] hs ?_;intro K7 U
  refine Ab _ (FT w0 hP hT n _ _ _  _ ah) (hv hs) ?_
  refine ne hs U ?_
  clear U
  exact rt h hs a d
 ·replace h:=AN h hf5
  obtain ⟨y9,E,h⟩:=bind_some h
  rcases Bool.eq_false_or_eq_true (!y9) with hf10 | hf10
  ·replace h:=AO h hf10
   have hs:=And.intro hf5 hs
   have hs:=And.intro hf10 hs
   refine rk 5 [2,3,32] hs ?_
   refine Ab _ (FT w0 hP hT n _ _ _  _ f) (hv hs) ?_
   refine nc hs ?_
   refine Ab _ (Du w0 n _ _ _ a0.1 _ E) (hv hs) ?_
   refine nc hs ?_
   refine As ?_
   refine nc hs ?_
   refine As ?_
   refine ne hs c ?_
   clear c
   refine AP true ev (ef hs) (fun hb11=>?_) (fun hb11=>by cases hb11)
   obtain ⟨ap,H,h⟩:=bind_some h
   refine rc 2 [4] hs ?_;intro K12 s
   refine Ab _ (FT w0 hP hT n _ _ _  _ H) (hv hs) ?_
   refine ne hs s ?_
   clear s
   exact rt h hs a d
  ·replace h:=AN h hf10
   obtain ⟨af,y,h⟩:=bind_some h
   rcases Bool.eq_false_or_eq_true (!af) with hf15 | hf15
   ·replace h:=AO h hf15
    have hs:=And.intro hf5 hs
    have hs:=And.intro hf10 hs
    have hs:=And.intro hf15 hs
    refine rk 5 [2,3,32] hs ?_
    refine Ab _ (FT w0 hP hT n _ _ _  _ f) (hv hs) ?_
    refine nc hs ?_
    refine Ab _ (Du w0 n _ _ _ a0.1 _ E) (hv hs) ?_
    refine nc hs ?_
    refine Ab _ (Du w0 n _ _ _ a0.2 _ y) (hv hs) ?_
    refine nc hs ?_
    refine As ?_
    refine ne hs c ?_
    clear c
    refine AP true ev (ef hs) (fun hb16=>?_) (fun hb16=>by cases hb16)
    obtain ⟨ar,ad,h⟩:=bind_some h
    refine rc 2 [4] hs ?_;intro K17 m
    refine Ab _ (FT w0 hP hT n _ _ _  _ ad) (hv hs) ?_
    refine ne hs m ?_
    clear m
    exact rt h hs a d
   ·replace h:=AN h hf15
    obtain ⟨am,V,h⟩:=bind_some h
    have hs:=And.intro hf5 hs
    have hs:=And.intro hf10 hs
    have hs:=And.intro hf15 hs
    refine rk 5 [2,3,32] hs ?_
    refine Ab _ (FT w0 hP hT n _ _ _  _ f) (hv hs) ?_
    refine nc hs ?_
    refine Ab _ (Du w0 n _ _ _ a0.1 _ E) (hv hs) ?_
    refine nc hs ?_
    refine Ab _ (Du w0 n _ _ _ a0.2 _ y) (hv hs) ?_
    refine nc hs ?_
    refine Ab _ (ZbM w0 _ _ _ a1 _ V) (hv hs) ?_
    refine ne hs c ?_
    clear c
    refine Av h hs (fun hs h=>?_) (fun hs h=>?_)
    ·obtain ⟨au,aa,h⟩:=bind_some h
     refine rc 2 [4] hs ?_;intro K21 i
     refine Ab _ (FT w0 hP hT n _ _ _  _ aa) (hv hs) ?_
     refine ne hs i ?_
     clear i
     exact rt h hs a d
    refine sk [2,3] hs ab ?_
    clear ab
    obtain ⟨ao,K,h⟩:=bind_some h
    refine rc 2 [2,3,5] hs ?_;intro K23 v
    refine Ab _ (Oe w0 hT n _ _ _ a0.1 a0.2 _ K) (hv hs) ?_
    refine ne hs v ?_
    clear v
    apply Aa;intro K25 z
    obtain ⟨av,N,h⟩:=bind_some h
    refine rc 2 [2,3,5,41] hs ?_;intro K26 k
    refine Ab _ (SN w0 hT n _ _ _ a0 _ N) (hv hs) ?_
    refine ne hs k ?_
    clear k
    refine Av h hs (fun hs h=>?_) (fun hs h=>?_)
    ·refine rg [4] hs ?_
     exact rt h hs a d
    refine sk [2,3,5] hs z ?_
    clear z
    apply Aa;intro K30 w
    obtain ⟨ax,F,h⟩:=bind_some h
    refine rc 2 [2,3,5,50] hs ?_;intro K31 D
    refine Ab _ (V5 w0 n _ _ _ a0.1 a0.2 _ F) (hv hs) ?_
    refine ne hs D ?_
    clear D
    refine Av h hs (fun hs h=>?_) (fun hs h=>?_)
    ·refine rg [4] hs ?_
     exact rt h hs a d
    refine sk [2,3,5] hs w ?_
    clear w
    obtain ⟨aj,Z,h⟩:=bind_some h
    refine rc 2 [2,3,5,6,7] hs ?_;intro K35 t
    refine Ab _ (JG w0 hP hT n _ _ _ a0.1 a1 _ Z) (hv hs) ?_
    refine ne hs t ?_
    clear t
    apply Aa;intro K37 u
    refine rg [2,3,6,63] hs ?_
    refine Av h hs (fun hs h=>?_) (fun hs h=>?_)
    ·refine rg [4] hs ?_
     exact rt h hs a d
    refine sk [2,3,6] hs u ?_
    clear u
    obtain ⟨ag,Q,h⟩:=bind_some h
    refine rc 2 [2,3,8,9] hs ?_;intro K41 p
    refine Ab _ (YS w0 n _ _ _ a0.1 a0.2 aj.1 _ Q) (hv hs) ?_
    refine ne hs p ?_
    clear p
    apply Aa;intro K43 l
    refine rg [2,3,8,74] hs ?_
    refine Av h hs (fun hs h=>?_) (fun hs h=>?_)
    ·refine rg [4] hs ?_
     exact rt h hs a d
    refine sk [2,3,8] hs l ?_
    clear l
    apply Aa;intro K47 j
    obtain ⟨aq,J,h⟩:=bind_some h
    refine rc 2 [2,3,77] hs ?_;intro K48 q
    refine Ab _ (KC w0 hT n _ _ _ ag.1 _ J) (hv hs) ?_
    refine ne hs q ?_
    clear q
    refine Av h hs (fun hs h=>?_) (fun hs h=>?_)
    ·refine rg [4] hs ?_
     exact rt h hs a d
    refine sk [2,3] hs j ?_
    clear j
    obtain ⟨e,G,h⟩:=bind_some h
    refine rc 2 [2,10,11] hs ?_;intro K52 g
    refine Ab _ (LC w0 hP hT n _ _ _ a0.1 a0.2 a1 _ G) (hv hs) ?_
    refine ne hs g ?_
    clear g
    obtain ⟨O,Y,h⟩:=bind_some h
    refine rc 2 [2,10,11,12,13] hs ?_;intro K54 o
    refine Ab _ (JG w0 hP hT n _ _ _ a0.2 e.1 _ Y) (hv hs) ?_
    refine ne hs o ?_
    clear o
    apply Aa;intro K56 b
    rcases Bool.eq_false_or_eq_true (decide (e.2=0)) with hf57 | hf57
    ·replace h:=AO h hf57
     obtain ⟨ai,C,h⟩:=bind_some h
     rcases Bool.eq_false_or_eq_true (ai&&(decide (O.2=0))) with hf59 | hf59
     ·replace h:=AO h hf59
      obtain ⟨aw,ae,h⟩:=bind_some h
      have hs:=And.intro hf57 hs
      have hs:=And.intro hf59 hs
      refine rk 3 [4] hs ?_
      refine Ab _ (NY w0 hP hT n _ _ _ a0.2 e.1 _ C) (hv hs) ?_
      refine nc hs ?_
      refine Ab _ (UK w0 n _ _ _ O.1 e.1 _ ae) (hv hs) ?_
      refine ne hs b ?_
      clear b
      exact rt h hs a d
     ·replace h:=AN h hf59
      have hs:=And.intro hf57 hs
      have hs:=And.intro hf59 hs
      refine rk 3 [4] hs ?_
      refine Ab _ (NY w0 hP hT n _ _ _ a0.2 e.1 _ C) (hv hs) ?_
      refine nc hs ?_
      refine As ?_
      refine ne hs b ?_
      clear b
      exact rt h hs a d
    ·replace h:=AN h hf57
     have hs:=And.intro hf57 hs
     refine rk 3 [4] hs ?_
     refine As ?_
     refine nc hs ?_
     refine As ?_
     refine ne hs b ?_
     clear b
     exact rt h hs a d
theorem Zfk (n:Nat) (hn:10000000000≤n) (t:Ty × Ty) (h1:t.1.bulk≤1048576) (h2:t.2.bulk≤1048576) (s1:t.1.depth≤10∧t.1.size≤60) (s2:t.2.depth≤10∧t.2.size≤60) :
  ∃ c1 c2,EQ n t.1=some c1∧EQ n t.2=some c2∧(c1=0→t.1.Fine 8)∧(c2=0→t.2.Fine 8)∧G5 n t=some (decide (c1=0)&&decide (c2=0))∧Dn n t.1 t.2=some (if c1=0 then c2 else c1):=by
 have e:=t.1.size_bulk
 have f:=t.2.size_bulk
 obtain ⟨c1,a,d⟩:=RY n t.1 (by omega) (Ty.small_of h1 (by omega) (by omega))
 obtain ⟨c2,b,c⟩:=RY n t.2 (by omega) (Ty.small_of h2 (by omega) (by omega))
 refine ⟨c1,c2,a,b,d,c,?_,?_⟩
 ·rw [G5,Nz n t.1 (by omega) (by omega),Option.bind_some,decide_eq_true s1,if_pos rfl,Nz n t.2 (by omega) (by omega),Option.bind_some,decide_eq_true s2,if_pos rfl,a,Option.bind_some]
  by_cases z:c1=0
  ·rw [decide_eq_true z,if_pos rfl,b,Option.bind_some,Bool.true_and]
  ·rw [decide_eq_false z,if_neg (by decide),Bool.false_and]
 ·rw [Dn,a,Option.bind_some]
  by_cases z:c1=0
  ·rw [decide_eq_true z,if_neg (by decide),b,Option.bind_some,if_pos z]
  ·rw [decide_eq_false z,if_pos (by rfl),if_neg z]
theorem RD (n:Nat) (hn:10000000000≤n) (t:Ty × Ty) (v:Vl) (h1:t.1.bulk≤1048576) (h2:t.2.bulk≤1048576) (hv:v.bulk≤1048576):ED n t v=some true:=by
 have D:=ZbP n (by omega)
 have Y:=t.1.size_bulk
 have Q:=t.2.size_bulk
 have U:=v.size_bulk
 have b:=v.ok_bulk hv
 rw [ED,D,Option.bind_some,if_neg (by decide),Nz n t.1 (by omega) (by omega),Option.bind_some]
 by_cases s1:t.1.depth≤10∧t.1.size≤60
 rotate_left
 ·rw [decide_eq_false s1,if_pos (by rfl),Option.bind_some]
 rw [decide_eq_true s1,if_neg (by decide),Nz n t.2 (by omega) (by omega),Option.bind_some]
 by_cases s2:t.2.depth≤10∧t.2.size≤60
 rotate_left
 ·rw [decide_eq_false s2,if_pos (by rfl),Option.bind_some]
 obtain ⟨few,f⟩:=Zc6 v (by omega)
 rw [decide_eq_true s2,if_neg (by decide),f,Option.bind_some]
 cases few with
 | false=>rw [if_pos (by rfl),Option.bind_some]
 | true =>
  rw [if_neg (by decide)]
  have d:t.1.small:=Ty.small_of h1 (by omega) (by omega)
  have a:t.2.small:=Ty.small_of h2 (by omega) (by omega)
  obtain ⟨g,j,J,w,F,C,s,i⟩:=Zfk n hn t h1 h2 s1 s2
  rw [Fb,i,Option.bind_some,s]
  by_cases z:g=0∧j=0
  rotate_left
  ·have a1:¬ (if g=0 then j else g)=0:=by split<;>omega
   have a2:(decide (g=0)&&decide (j=0))=false:=by
    rw [Bool.eq_false_iff];intro q;rw [Bool.and_eq_true,decide_eq_true_eq,decide_eq_true_eq] at q;exact z q
   rw [decide_eq_false a1,if_neg (by decide),Option.bind_some,Option.bind_some,a2,if_pos (by rfl)];rfl
  obtain ⟨rfl,rfl⟩:=z
  have g1:=F rfl
  have g2:=C rfl
  obtain ⟨O,u⟩:=XA 12 n t.1 t.2 d a g1.good g2.good d.2.1 (by omega)
  have G:=Oz n t.1 v d b (by omega) (by omega)
  rw [if_pos rfl,decide_eq_true (rfl:(0:Int)=0),if_pos rfl,O,Option.bind_some,Option.bind_some,Option.bind_some,if_neg (by decide),u,Option.bind_some,if_neg (by simp),G,Option.bind_some]
  cases hc:Ou 12 t.1 t.2 with
  | false=>rw [if_pos (by rfl)]
  | true =>
   by_cases hf:EI 12 t.1 (BZ 12 t.1 v)=true
   rotate_left
   ·rw [if_neg hf,if_pos (show ((!true)||(!decide ((nilV,(18:Int)).2=0)))=true by decide)]
   rw [if_pos hf,if_neg (show ¬ ((!true)||(!decide ((0:Int)=0)))=true by decide)]
   obtain ⟨E,x⟩:=Oi 12 t.1 v d b (by omega)
   have vd:=v.depth_size
   obtain ⟨y,h⟩:=Ta 12 t.1 t.2 _ g1.good g2.good hc hf
   obtain ⟨V,K,u1,H,Z,k⟩:=Yc 12 n (v.depth+1048576) 8 t.1 t.2 (BZ 12 t.1 v) d a g1.good g2 E x hf (by omega)
   rw [h] at k
   have x2:K=(y,true):=k.1
   obtain ⟨_,m,p⟩:=k
   subst x2
   have p:y.depth≤v.depth+1048576+1048576:=p
   rw [H,Option.bind_some,if_neg (by simp),TC n y (by omega) (by omega) m,Option.bind_some]
   by_cases c:N1 y=0
   rotate_left
   ·rw [decide_eq_false c,if_pos (by rfl)]
   have r:=Zcv c
   obtain ⟨o,N⟩:=Tm 12 12 8 t.1 t.2 _ y g1.good g2 a.2.1 hf h
   have l:=ZZ n t.1 t.2 v hn d a b (by omega) J w g1 g2
   rw [UpR,if_pos hf,h] at l
   simp only [c,if_true] at l
   have e:=Oz n t.2 y a m.ok (by omega) (by omega)
   rw [N,if_pos o] at e
   rw [decide_eq_true c,if_neg (by decide),l,Option.bind_some,e,Option.bind_some,if_pos (by rfl),ZaT n 12 t.2 y a.2.1 (by omega) a.1 a.2.2 m (by omega) (by omega),Option.bind_some,o,if_pos (by rfl),Z9 n y r (by omega),Option.bind_some]
end Go.Proofs.YtgpmlelfkjfbiaaGreatDoor
namespace Go.Proofs.YtgpmlelfkjfbiaaGreatDoor
open Go Go.Shelf Go.ChangeShapes Go.WideShapes Go.ChangeAt Go.RowKit Go.Lib Go.Ev
set_option maxRecDepth 100000
section
variable {H:Type} {enc:TypeId × Value→H} {W:World}
theorem ZeU (n:Nat) (cs:List Value) (x:DataW H × List MemPlace) (h:Td enc W n 58 cs=some x):∃ t:Ty × Ty,t.1.bulk+t.2.bulk≤Rows.uptoBulk x.1∧RC W cs (t.1.cs++t.2.cs):=by
 cases n with
 | zero=>simp [Td,DataW.trod] at h
 | succ n =>
  obtain ⟨i,p,hn,rfl,l,m,f⟩:=DataW.trod_struct Tryz.underlying58 h
  cases hn
  have e:cs.length=14:=l.trans (by kernel_rfl)
  have g:i.length=2:=m
  match i,g,f with
  | [w0,w1],_,f =>
  have k:_=some w0:=f 0 _ rfl;have j:_=some w1:=f 1 _ rfl
  obtain ⟨a,_,c,r⟩:=XC n _ _ k
  obtain ⟨b,_,d,q⟩:=XC n _ _ j
  have o:Tryz.prog.cellsOf 26=7:=by kernel_rfl
  simp only [List.getElem_toArray,List.getElem_cons_zero,List.getElem_cons_succ,o] at c d
  match cs,e with
  | [c0,c1,c2,c3,c4,c5,c6,c7,c8,c9,c10,c11,c12,c13],_ =>
  simp only [List.drop_zero,List.take_succ_cons,List.take_zero,List.drop_succ_cons] at c d
  exact ⟨(a,b),by simp only [List.map_cons,List.map_nil,Rows.uptoBulk,Rows.uptoBulkAll];omega,c.app d⟩
end
section
variable {H:Type} {enc:TypeId × Value→H} {W:World} {base:Nat} {v:Value} {d:DataW H} {p:List MemPlace}
theorem ZhT (hv:Value.okWide Tryz.prog W .any base 58 v) (h:DataW.Trod enc Tryz.prog W 0 (fun _=>true) true 58 v d p) :
  ∃ t:Ty × Ty,t.1.bulk+t.2.bulk≤Rows.uptoBulk d∧R W Mem.start W v (.agg (t.1.cs++t.2.cs)):=by
 obtain ⟨cs,rfl⟩:=Zct Tryz.underlying58 hv
 obtain ⟨n,b⟩:=h
 obtain ⟨t,a,c⟩:=ZeU n _ _ b
 exact ⟨t,a,by simpa [Value.cells] using c.agg (fun x hx=>by
  rcases List.mem_append.1 hx with hx | hx
  ·exact t.1.ones x hx
  ·exact t.2.ones x hx)⟩
end
end Go.Proofs.YtgpmlelfkjfbiaaGreatDoor
