/-
  Part 8 of the proof: rules and walks that the claim's last text uses.
-/
import Derived.Test.YtmcnjijeocmkgaaGreatDoorSy7
set_option linter.unusedSimpArgs false
set_option linter.unusedVariables false
set_option maxRecDepth 100000
set_option maxHeartbeats 4000000
namespace Go.Proofs.YtmcnjijeocmkgaaGreatDoor
open Go Go.RowKit Go.Ev
theorem Zbd (r:Ty→Int→Int→Option (Int × Int)) (n D:Nat) (t:Ty) (lv:Int) (hlv:0≤lv∧lv≤9) (hn:t.size+2600000≤n) (ht:t.small) (hk:t.kind=9∨t.kind=10) (hg:∀ x∈t.fields,Us t.kind x)
  (hf:∀ p∈t.fields,p.2.2.2.1.Fine D∧∀ v∈p.2.2.2.2,OR v=0∧FB 12 p.2.2.2.1 v=true)
  (hr:∀ p∈t.fields,∀ left:Int,(p.2.2.2.1.size:Int)≤left→left≤4096→r p.2.2.2.1 (lv+1) left=some (0,left-(p.2.2.2.1.size:Int))):∀ (k m i:Nat) (left:Int),i+k=t.fields.length→k<m→(Dp (t.fields.drop i):Int)≤left→left≤4096 →
  BP r n t lv (t.fields.map fun p=>p.2.2.2.1) m i left=some (0,left-(Dp (t.fields.drop i):Int))
 | k,0,i,_,_,h,_,_=>absurd h (Nat.not_lt_zero _)
 | 0,m+1,i,left,hi,_,h1,h2=>by
  rw [BP,AC,Af (show ¬ i<(t.fields.map fun p=>p.2.2.2.1).length by rw [List.length_map];omega),Ai (by decide),JD,List.drop_eq_nil_of_le (by omega)]
  simp [Dp]
 | k+1,m+1,i,left,hi,hm,h1,h2=>by
  have d:i<t.fields.length:=by omega
  have c:=List.getElem_mem d
  have l:=ht.1
  have C:=t.lens
  have g:=PS t.fields i d
  have e:i<(t.fields.map fun p=>p.2.2.2.1).length:=by rw [List.length_map];exact d
  rw [BP,AC,Ag e]
  simp only [if_true,AM e,AM d,Ae,List.getElem_map]
  rw [Ah (by unfold BM;omega),hr _ c left (by omega) h2,Ae]
  simp only [decide_true,Bool.not_true,Bool.false_eq_true,if_false]
  rw [Ah (AK (by omega))]
  have ih:BP r n t lv (t.fields.map fun p=>p.2.2.2.1) m ((i:Int)+1) (left-(t.fields[i].2.2.2.1.size:Int))=_:=Zbd r n D t lv hlv hn ht hk hg hf hr k m (i+1) (left-(t.fields[i].2.2.2.1.size:Int)) (by omega) (by omega) (by omega) (by omega)
  rw [ih]
  have fin:some ((0:Int),left-(t.fields[i].2.2.2.1.size:Int)-(Dp (t.fields.drop (i+1)):Int))=some (0,left-(Dp (t.fields.drop i):Int)):=by
   rw [g,Int.natCast_add,Int.sub_sub]
  obtain ⟨g1,g2,g3,g4⟩:=hg _ c
  obtain ⟨s,gd⟩:=hf _ c
  by_cases n3:t.fields[i].2.2.1=3
  ·have u:t.kind=9:=by
    rcases hk with hk | hk
    ·exact hk
    ·have:=g2 hk;omega
   obtain ⟨v,hv⟩:=List.length_eq_one_iff.1 (g3 n3)
   have f:B1 t.fields[i].2.2.2.2 0=some v:=by rw [hv];rfl
   obtain ⟨_,w,z,o⟩:=(t.ok_eq.1 ht.2.2).2.2.2 _ c
   obtain ⟨y,E,q⟩:=o v (by rw [hv];simp)
   have a:=t.field_size _ c
   have j:=Zaj n t.fields[i].2.2.2.1 v (by omega) (by omega) (by omega) (Ty.small_field ht c) q s.good
   have b:(decide (OR v=0)&&FB 12 t.fields[i].2.2.2.1 v)=true:=by
    have:=gd v (by rw [hv];simp)
    rw [Ag this.1,this.2];rfl
   rw [Ag u,Ag n3]
   simp only [if_true,f,Ae,j,b,Bool.not_true,Bool.false_eq_true,if_false]
   exact fin
  ·rw [Af n3]
   simp only [Bool.false_eq_true,if_false,ite_self]
   exact fin
theorem S0:∀ (n D:Nat) (t:Ty) (lv left:Int),t.size+2600001≤n→t.small→t.Fine D→lv=9-(D:Int)→0≤lv→(t.size:Int)≤left→left≤4096→HN n t lv left=some (0,left-(t.size:Int))
 | 0,D,t,_,_,h,_,_,_,_,_,_=>by omega
 | n+1,D,t,lv,left,h,ht,hF,hD,l1,h1,h2=>by
  have G:=t.lens
  have s:=ht.1
  have j:=Ty.fit_of ht (show t.size+2600000≤n by omega)
  have c:=t.size_eq
  cases hF with
  | mk d _ own he hf hd =>
  obtain ⟨F,r,x,o,E,u⟩:=KV own
  rw [HN,OL,Af (show ¬ left=0 by omega)]
  simp only [Bool.false_eq_true,if_false]
  have y:BM (left-1):=by unfold BM;omega
  rw [Af (show ¬ 8<lv by omega)]
  simp only [Bool.false_eq_true,if_false,Ah y]
  rw [ZdB n t j,Ae,Ag own]
  simp only [Bool.not_true,Bool.false_eq_true,if_false]
  rw [Zf n t (by omega) (by omega),Ae]
  by_cases k8:t.kind=8
  ·obtain ⟨w,_,_⟩:=x k8
   obtain ⟨e,hx⟩:∃ e,t.elem=[e]:=List.length_eq_one_iff.1 w
   have l:e∈t.elem:=by rw [hx];simp
   have z:=t.elem_size e l
   have f:t.fields=[]:=List.length_eq_zero_iff.1 (o (by omega) (by omega))
   have a:t.size=1+e.size:=by rw [c,hx,f];simp [GO,Dp]
   have m:BM (lv+1):=by unfold BM;omega
   obtain ⟨n',rfl⟩:∃ k,n=k+2:=⟨n-2,by omega⟩
   rw [U7,Ah k8,hx,BP,Ah (by simp),show B1 [e] 0=some e from rfl,Ae,Ah m,S0 (n'+2) d e (lv+1) (left-1) (by omega) (Ty.small_elem ht l) (he e l) (by omega) (by omega) (by omega) (by omega),Ae]
   rw [Af (show ¬ t.kind=9 by omega)]
   simp only [decide_true,Bool.not_true,Bool.false_eq_true,if_false]
   rw [Ah (by decide),BP,Ai (by simp),JD,a,Int.natCast_add,Int.sub_sub]
   rfl
  ·rw [U7,Ai k8]
   have i:t.elem=[]:=List.length_eq_zero_iff.1 (r k8)
   by_cases k9:t.kind=9∨t.kind=10
   ·have a:t.size=1+Dp t.fields:=by rw [c,i];simp [GO]
    rw [Ah k9]
    have q:=Zbd (HN n) n d t lv ⟨l1,by omega⟩ (by omega) ht k9 u (fun p g=>⟨hf p g,hd p g⟩) (fun p g b C v=>by
     have:=t.field_size p g
     exact S0 n d p.2.2.2.1 (lv+1) b (by omega) (Ty.small_field ht g) (hf p g) (by omega) (by omega) C v) t.fields.length n 0 (left-1) (by omega) (by omega) (by rw [List.drop_zero];omega) (by omega)
    rw [List.drop_zero] at q
    refine q.trans ?_
    rw [a,Int.natCast_add,Int.sub_sub]
    rfl
   ·rw [Ai k9]
    have f:t.fields=[]:=List.length_eq_zero_iff.1 (o (by omega) (by omega))
    have a:t.size=1:=by rw [c,i,f];simp [GO,Dp]
    obtain ⟨n',rfl⟩:∃ k,n=k+1:=⟨n-1,by omega⟩
    rw [BP,Ai (by simp),JD,a]
    rfl
def UZ (c:Int):Int:=if 4097<c then 4097 else c
def V3 (a b:Int):Int:=if a<b then b else a
def lsT (r:Ty→Option Int) (p:TF):Int:=if p.2.2.1=1 then (r p.2.2.2.1).getD 0 else if p.2.2.1=3 then (match p.2.2.2.2 with | v::_=>((F8 1 v).length:Int) | []=>0) else 0
theorem Zkv (n:Nat) (t:Ty) (h:t.size+10≤n+1) (ht:t.small) (gt:t.Good) (k9:t.kind=9):AP (n+1) t=some (UZ (1+(t.fields.map (lsT (AP n))).sum))∧∀ p∈t.fields,0≤lsT (AP n) p:=by
 have O:=t.lens
 have x:=ht.1
 obtain ⟨H,J,U,Q,G,o⟩:=KV (OZ gt)
 have g:∀ p∈t.fields,(p.2.2.1=1→AP n p.2.2.2.1=some (lsT (AP n) p))∧0≤lsT (AP n) p∧lsT (AP n) p≤2000000:=fun p d=>by
  have a1:=t.field_size _ d
  rw [lsT]
  by_cases n1:p.2.2.1=1
  ·obtain ⟨c,u,K,Z⟩:=Ph n p.2.2.2.1 (by omega) (Ty.small_field ht d) (A9 gt d)
   rw [Ah n1,u]
   exact ⟨fun _=>rfl,by show 0≤c;omega,by show c≤_;omega⟩
  rw [Ai n1]
  by_cases n3:p.2.2.1=3
  ·obtain ⟨v,hv⟩:=List.length_eq_one_iff.1 ((o _ d).2.2.1 n3)
   obtain ⟨_,s,D,l⟩:=(t.ok_eq.1 ht.2.2).2.2.2 _ d
   obtain ⟨C,w,E⟩:=l v (by rw [hv];simp)
   have d:=Nh _ v 1 (Nat.le_refl _)
   rw [Ah n3,hv]
   exact ⟨fun q=>absurd q n1,by show (0:Int)≤((F8 1 v).length:Int);omega,by show ((F8 1 v).length:Int)≤_;omega⟩
  ·rw [Ai n3]
   exact ⟨fun q=>absurd q n1,by omega,by omega⟩
 refine ⟨?_,fun p d=>(g p d).2.1⟩
 have j:∀ (k m i:Nat) (a:Int),i+k=t.fields.length→k<m→1≤a→a≤2000000*(i+1)→Be (AP n) n t m a i=some (UZ (a+((t.fields.drop i).map (lsT (AP n))).sum)):=by
  intro k
  induction k with
  | zero =>
   intro m i a F y z _
   obtain ⟨m,rfl⟩:∃ q,m=q+1:=⟨m-1,by omega⟩
   rw [Be,AC,Af (show ¬ i<t.fields.length by omega),Ai (by decide),List.drop_eq_nil_of_le (by omega),List.map_nil,List.sum_nil,Int.add_zero];rfl
  | succ k ih =>
   intro m i a F y z N
   obtain ⟨m,rfl⟩:∃ q,m=q+1:=⟨m-1,by omega⟩
   have f:i<t.fields.length:=by omega
   have b:=List.getElem_mem f
   obtain ⟨r,V,Y⟩:=g _ b
   have go:Cf (AP n) n (Be (AP n) n t m) i (a+lsT (AP n) t.fields[i])=some (UZ (a+((t.fields.drop i).map (lsT (AP n))).sum)):=by
    rw [Cf,Ah (AK (by omega)),List.drop_eq_getElem_cons f,List.map_cons,List.sum_cons,←Int.add_assoc]
    exact ih m (i+1) _ (by omega) (by omega) (by omega) (by push_cast;omega)
   rw [Be,AC,Ag f,Ah rfl,AM f,Ae]
   by_cases n1:t.fields[i].2.2.1=1
   ·rw [Ag n1,Ah rfl,r n1,Ae,Ah (by unfold BM;omega)]
    exact go
   rw [Af n1,Ai (by decide)]
   by_cases n3:t.fields[i].2.2.1=3
   ·obtain ⟨v,hv⟩:=List.length_eq_one_iff.1 ((o _ b).2.2.1 n3)
    obtain ⟨_,s,D,l⟩:=(t.ok_eq.1 ht.2.2).2.2.2 _ b
    obtain ⟨C,w,E⟩:=l v (by rw [hv];simp)
    have d:=Nh _ v 1 (Nat.le_refl _)
    have e:lsT (AP n) t.fields[i]=((F8 1 v).length:Int):=by rw [lsT,Ai n1,Ah n3,hv]
    rw [Ag n3,Ah rfl,hv,show B1 [v] 0=some v from rfl,Ae,S4 _ (by omega),Ae,←e,Ah (by unfold BM;omega)]
    exact go
   ·have e:lsT (AP n) t.fields[i]=0:=by rw [lsT,Ai n1,Ai n3]
    rw [e,Int.add_zero] at go
    rw [Af n3,Ai (by decide)]
    exact go
 have:=j t.fields.length n 0 1 (by omega) (by omega) (by decide) (by decide)
 rw [List.drop_zero] at this
 rw [AP,EJ,Af (show ¬ t.kind=8 by omega),Ai (by decide),Af (show ¬ t.kind=10 by omega),Ai (by decide),Ag k9,Ah rfl]
 exact this
theorem Lp (b:UInt8):∀ k,Lib.repeatL [b] k=List.replicate k b
 | 0=>rfl
 | k+1=>by rw [Lib.repeatL,Lp b k,List.replicate_succ];rfl
theorem Zir {α β:Type} (f:α→Option β) (l:List α) (i:Nat) (h:i<l.length):(l.take (i+1)).filterMap f=(l.take i).filterMap f++(match f l[i] with | some y=>[y] | none=>[]):=by
 rw [List.take_succ_eq_append_getElem h,List.filterMap_append]
 cases hf:f l[i] with
 | none=>rw [List.filterMap_cons_none hf];rfl
 | some y=>rw [List.filterMap_cons_some hf];rfl
theorem Zc9 {d:Nat} {t:Ty} (tf:t.Fine (d+1)) (k9:t.kind=9) (hs:(Av (d+1) t).size≤4096):Bi (t.fields.filterMap (BR (Av d)))+1≤4096∧∀ p∈t.fields,p.2.2.1=1→(Av d p.2.2.2.1).size≤4095:=by
 have ev:Av (d+1) t=Vl.mk 9 0 0 ⟨#[]⟩ [] (BS (t.fields.filterMap (BR (Av d)))):=by
  rw [Av,Aa,Aa,Aa,Aa,Aa,Ah k9]
 rw [ev] at hs
 simp only [Vl.size,CJ] at hs
 rw [NI (Gj _)] at hs
 refine ⟨by omega,fun p b n1=>?_⟩
 have a:(p.2.1,Av d p.2.2.2.1)∈t.fields.filterMap (BR (Av d)):=List.mem_filterMap.2 ⟨p,b,by unfold BR;rw [Ah n1]⟩
 have:=Ns _ _ a
 simp only at this
 omega
theorem Zfv {d:Nat} {t:Ty} (tf:t.Fine (d+1)):((t.fields.filterMap (BR (Av d))).map Prod.fst).Nodup:=(HM _ _ _ tf.good.own.apart).1.sublist (WO _ _)
theorem ZhY {d:Nat} {t:Ty} (ts:t.small) (tf:t.Fine (d+1)):∀ q∈t.fields.filterMap (BR (Av d)),q.2.Good∧q.1.size≤32:=fun q c=>by
 obtain ⟨p,a,e1⟩:=List.mem_filterMap.1 c
 refine ⟨?_,by rw [Lo e1];exact Qg (tf.good.own.each p a).1⟩
 unfold BR at e1
 by_cases h1:p.2.2.1=1
 ·rw [Ah h1] at e1
  rw [←Option.some.inj e1]
  exact (H7 d 12 _ (Ty.small_field ts a) (tf.field a) (Ty.small_field ts a).2.1).1
 rw [Ai h1] at e1
 by_cases h3:p.2.2.1=3
 ·rw [Ah h3] at e1
  obtain ⟨v,hv,b⟩:=Option.map_eq_some_iff.1 e1
  rw [←b]
  exact Gg (tf.dfl a v (List.mem_of_mem_head? hv)).1
 ·rw [Ai h3] at e1;cases e1
theorem X5 {d:Nat} (l:List TF) (i:Nat):((l.take i).filterMap (BR (Av d))).length≤l.length:=Nat.le_trans (List.length_filterMap_le _ _) (by rw [List.length_take];omega)
theorem ZfG (r:Ty→Option Vl) (n:Nat) (t x:Ty) (v:Vl) (hx:B1 t.elem 0=some x) (hr:r x=some v) (k:Nat) (hk:t.min=k) (hk2:k≤1000):∀ (j m i:Nat),i+j=k→j<m→G1 r n t m (List.replicate i v) i=LI n (List.replicate k v)
 | j,0,i,_,h=>absurd h (Nat.not_lt_zero _)
 | 0,m+1,i,hi,_=>by
  rw [G1,hk,AC,Ac,Ai (by decide),LC,show i=k by omega]
  cases LI n (List.replicate k v)<;>rfl
 | j+1,m+1,i,hi,hm=>by
  rw [G1,hk,AC,Ag (by omega),Ah rfl,hx,Ae,hr,Ae,Ah (by rw [List.length_replicate];omega),Ah (AK (by omega)),←List.replicate_succ']
  exact ZfG r n t x v hx hr k hk hk2 j m (i+1) (by omega) (by omega)
theorem ZfQ (r:Ty→Option Vl) (n d:Nat) (t:Ty) (hn:t.size+2000000≤n) (ts:t.small) (tf:t.Fine (d+1)) (hr:∀ p∈t.fields,p.2.2.1=1→r p.2.2.2.1=some (Av d p.2.2.2.1)):∀ (k m i:Nat),i+k=t.fields.length→k<m →
  EM r n t m ((t.fields.take i).filterMap (BR (Av d))) i=Gm n (t.fields.filterMap (BR (Av d)))
 | k,0,i,_,h=>absurd h (Nat.not_lt_zero _)
 | 0,m+1,i,hi,_=>by
  rw [EM,AC,Ac,Ai (by decide),N5,List.take_of_length_le (by omega)]
  cases Gm n (t.fields.filterMap (BR (Av d)))<;>rfl
 | k+1,m+1,i,hi,hm=>by
  have c:i<t.fields.length:=by omega
  have f:=ts.1
  have g:=t.lens
  have b:=List.getElem_mem c
  have e:=X5 (d:=d) t.fields i
  have ih:=ZfQ r n d t hn ts tf hr k m (i+1) (by omega) (by omega)
  rw [Zir _ _ _ c] at ih
  rw [EM,AC,Ag c,Ah rfl,AM c,Ae]
  by_cases n1:t.fields[i].2.2.1=1
  ·have a:BR (Av d) t.fields[i]=some (t.fields[i].2.1,Av d t.fields[i].2.2.2.1):=by unfold BR;rw [Ah n1]
   rw [a] at ih
   rw [Ag n1,Ah rfl,hr _ b n1,Ae,Ab,G0,Ah (AK (by omega))]
   exact ih
  rw [Af n1,Ai (by decide)]
  by_cases n3:t.fields[i].2.2.1=3
  ·obtain ⟨v,hv⟩:=List.length_eq_one_iff.1 ((tf.good.own.each _ b).2.2.2.2.1 n3)
   have a:BR (Av d) t.fields[i]=some (t.fields[i].2.1,v):=by unfold BR;rw [Ai n1,Ah n3,hv];rfl
   have j:=(((t.ok_eq.1 ts.2.2).2.2.2 _ b).2.2.2 v (by rw [hv];simp)).1
   rw [a] at ih
   rw [Ag n3,Ah rfl,hv,show B1 [v] 0=some v from rfl,Ae,FZ n v (by omega) (by omega),Ae,Ab,G0,Ah (AK (by omega))]
   exact ih
  ·have a:BR (Av d) t.fields[i]=none:=by unfold BR;rw [Ai n1,Ai n3]
   rw [a] at ih
   rw [Af n3,Ai (by decide),G0,Ah (AK (by omega))]
   simp only [List.append_nil] at ih
   exact ih
theorem Q3:∀ (n d:Nat) (t:Ty),t.size+2001000≤n→t.small→t.Fine d→(Av d t).size≤4096→HI n t=some (Av d t)
 | 0,d,t,h,_,_,_=>by omega
 | n+1,0,t,_,_,h,_=>by cases h
 | n+1,d+1,t,hn,ts,tf,hs=>by
  have own:=tf.good.own
  have v:=ts.1
  have G:=t.lens
  have F:=own.kind
  rw [HI,Rm]
  have g:Ii (HI n) n t true=some (Vl.mk t.kind (KC t) t.scale ⟨#[]⟩ [] []):=rfl
  by_cases n2:t.kind=2∨t.kind=3∨t.kind=6∨t.kind=7
  ·have ev:Av (d+1) t=Vl.mk t.kind (KC t) t.scale ⟨#[]⟩ [] []:=by rw [Av,Ah n2]
   rw [ev]
   rcases n2 with k | k | k | k
   ·rw [Ag k,Ah rfl];exact g
   ·rw [Af (show ¬ t.kind=2 by omega),Ai (by decide),Ag k,Ah rfl];exact g
   ·rw [Af (show ¬ t.kind=2 by omega),Ai (by decide),Af (show ¬ t.kind=3 by omega),Ai (by decide),Ag k,Ah rfl];exact g
   ·rw [Af (show ¬ t.kind=2 by omega),Ai (by decide),Af (show ¬ t.kind=3 by omega),Ai (by decide),Af (show ¬ t.kind=6 by omega),Ai (by decide),Ag k];exact g
  rw [Af (show ¬ t.kind=2 by omega),Ai (by decide),Af (show ¬ t.kind=3 by omega),Ai (by decide),Af (show ¬ t.kind=6 by omega),Ai (by decide),Af (show ¬ t.kind=7 by omega),Ii,Ai (by decide)]
  by_cases n4:t.kind=4
  ·have ev:Av (d+1) t=Vl.mk 4 0 0 (t.words.head?.getD (aS t.min.toNat)) [] []:=by rw [Av,Ai n2,Ah n4]
   rw [ev,Ag n4,Ah rfl]
   match hw:t.words with
   | w::r=>rw [Ah (by simp),show B1 (w::r) 0=some w from rfl];rfl
   | [] =>
    have a:=own.bounds (by omega) (by rw [hw];simp)
    rw [n4,show AH 4=(0,1024) from rfl] at a
    simp only at a
    have m:(⟨#[97]⟩:ByteArray).size=1:=rfl
    rw [Ai (by simp),Ah (by rw [m];omega),show (⟨#[97]⟩:ByteArray).data.toList=[97] from rfl,Lp]
    rfl
  rw [Af n4,Ai (by decide)]
  by_cases n5:t.kind=5
  ·have ev:Av (d+1) t=Vl.mk 5 0 0 (QB t.min.toNat) [] []:=by rw [Av,Ai n2,Ai n4,Ah n5]
   have a:=own.bounds (by omega) (by omega)
   rw [n5,show AH 5=(0,1024) from rfl] at a
   simp only at a
   have m:(⟨#[0]⟩:ByteArray).size=1:=rfl
   rw [ev,Ag n5,Ah rfl,Ah (by rw [m];omega),show (⟨#[0]⟩:ByteArray).data.toList=[0] from rfl,Lp]
   rfl
  rw [Af n5,Ai (by decide)]
  by_cases n8:t.kind=8
  ·obtain ⟨x,s⟩:=own.elem n8
   have b:x∈t.elem:=by rw [s];simp
   have a:=own.bounds (by omega) (by omega)
   rw [n8,Zj9] at a
   simp only at a
   have ev:Av (d+1) t=Vl.mk 8 0 0 ⟨#[]⟩ (List.replicate t.min.toNat (Av d x)) []:=by
    rw [Av,Ai n2,Ai n4,Ai n5,Ah n8,s];simp
   rw [ev] at hs ⊢
   rw [Ag n8,Ah rfl]
   have fin:LI n (List.replicate t.min.toNat (Av d x))=some (Vl.mk 8 0 0 ⟨#[]⟩ (List.replicate t.min.toNat (Av d x)) []):=by
    rw [LI,FZ n _ (by omega) (by omega)];rfl
   by_cases c:t.min=0
   ·obtain ⟨n',rfl⟩:∃ k,n=k+1:=⟨n-1,by omega⟩
    rw [G1,c,Ai (by decide),LC]
    rw [c] at fin
    have f:LI (n'+1) []=_:=fin
    rw [f];rfl
   ·have y:=t.elem_size x b
    have j:(Av d x).size≤4096:=by
     simp only [Vl.size,Bi,Uk] at hs
     have:1*(Av d x).size≤t.min.toNat*(Av d x).size:=Nat.mul_le_mul_right _ (by omega)
     omega
    have e:=ZfG (HI n) n t x (Av d x) (by rw [s];rfl) (Q3 n d x (by omega) (Ty.small_elem ts b) (tf.elem b) j) t.min.toNat (by omega) (by omega) t.min.toNat n 0 (by omega) (by omega)
    rw [List.replicate_zero] at e
    exact e.trans fin
  rw [Af n8,Ai (by decide)]
  by_cases n10:t.kind=10
  ·have o:=own.cases n10
   have c:=List.getElem_mem o
   have D:B1 t.fields 0=some t.fields[0]:=AM (k:=0) o
   have C:t.fields.head? = some t.fields[0]:=by rw [List.head?_eq_getElem?,List.getElem?_eq_getElem o]
   have ev:Av (d+1) t=Vl.mk 10 0 0 t.fields[0].2.1 [Av d t.fields[0].2.2.2.1] []:=by
    rw [Av,Ai n2,Ai n4,Ai n5,Ai n8,Ah n10,C];rfl
   have u:=t.field_size _ c
   rw [ev] at hs ⊢
   have l:=hs
   simp only [Vl.size,CJ,Bi] at l
   rw [Ag n10,Ah rfl,D,Ae,Q3 n d _ (by omega) (Ty.small_field ts c) (tf.field c) (by omega),Ae,EP,FZ n _ (by omega) (by omega)]
   rfl
  rw [Af n10,Ai (by decide)]
  by_cases n9:t.kind=9
  ·have ev:Av (d+1) t=Vl.mk 9 0 0 ⟨#[]⟩ [] (BS (t.fields.filterMap (BR (Av d)))):=by
    rw [Av,Ai n2,Ai n4,Ai n5,Ai n8,Ai n10,Ah n9]
   obtain ⟨q1,q2⟩:=Zc9 tf n9 hs
   have e:=ZfQ (HI n) n d t (by omega) ts tf (fun p i n1=>by
    have:=t.field_size p i
    exact Q3 n d _ (by omega) (Ty.small_field ts i) (tf.field i) (by have:=q2 p i n1;omega)) t.fields.length n 0 (by omega) (by omega)
   rw [List.take_zero,List.filterMap_nil] at e
   have E:EM (HI n) n t n [] 0=_:=e
   rw [Ag n9,Ah rfl,E,ev]
   exact ZcK n _ (by omega) (by omega) (fun q z=>I2 (by have:=Wv (ZhY ts tf q z).1;omega)) (Zfv tf)
  ·rw [Af n9,Ai (by decide),PD,Av,Ai n2,Ai n4,Ai n5,Ai n8,Ai n10,Ai n9]
def C7 (n:Nat) (g:Ty):Option Vl :=
 (Q6 n g).bind fun b =>
 some (b.1)
theorem E5 (w0:World) (hT:Lib.Utf8Tabs 2 3 w0) (n:Nat) (B:Am) (Rw:Aq) (L:Ar) (a0:Ty) (r:Vl) (h:C7 n a0=some r) :
  ACalls Tryz.prog w0 116 [.agg (a0.cs)] ⟨B,Rw,L⟩ fun x st=>x = .agg (r.cs)∧st=⟨B,Rw,L⟩:=by
 rw [C7] at h
 refine hd [.cell 2 34] Tryz.func116 Tryz.ntmps116 fun M0 W0 e d c b g f hs=>?_
 simp only [AG]
 exact go (tg (a:=([1,2],[2,3],[2],()))) h hs e d c b f (q1 (ZcI w0 hT n)) trivial
def lsS:Nat→Ty→Int
 | 0,_=>1
 | d+1,t=>UZ (if t.kind=8 then (if 0<t.min then 1+t.min*(match t.elem with | x::_=>lsS d x | []=>1) else 1)
   else if t.kind=10 then 1+(match t.fields with | p::_=>lsS d p.2.2.2.1 | []=>1)
   else if t.kind=9 then 1+(t.fields.map (lsT fun x=>some (lsS d x))).sum else 1)
theorem Zd0:∀ (d n:Nat) (t:Ty),t.size+10≤n→t.small→t.Good→t.depth≤d→AP n t=some (lsS d t)
 | 0,n,t,_,_,_,h=>by have:=t.depth_eq;omega
 | d+1,0,t,h,_,_,_=>by omega
 | d+1,n+1,t,h,ht,gt,hd=>by
  have C:=t.lens
  have m:=ht.1
  obtain ⟨w,y,s,E,k,D⟩:=KV (OZ gt)
  rw [lsS]
  by_cases k8:t.kind=8
  ·obtain ⟨o,z,v⟩:=s k8
   obtain ⟨e,he⟩:∃ e,t.elem=[e]:=List.length_eq_one_iff.1 o
   have b:e∈t.elem:=by rw [he];simp
   have:=t.elem_size _ b
   rw [AP,EJ,Ag k8,Ah rfl,Ah k8,he]
   by_cases hm:0<t.min
   ·obtain ⟨a,i,l,u⟩:=Ph n e (by omega) (Ty.small_elem ht b) (Ea gt b)
    have g:=Zd0 d n e (by omega) (Ty.small_elem ht b) (Ea gt b) (by have:=Ty.depth_elem b;omega)
    obtain rfl:a=lsS d e:=Option.some.inj (i.symm.trans g)
    have q1:0≤t.min*lsS d e:=Int.mul_nonneg (by omega) (by omega)
    have q2:0≤(256-t.min)*lsS d e:=Int.mul_nonneg (by omega) (by omega)
    rw [Int.sub_mul] at q2
    rw [Ag hm,Ah rfl,Ah hm,show B1 [e] 0=some e from rfl,Ae,i,Ae,Ah (by unfold BM;omega),Ah (by unfold BM;omega)]
    rfl
   ·rw [Af hm,Ai (by decide),Ai hm]
    rfl
  rw [Ai k8]
  by_cases k10:t.kind=10
  ·have j:=k k10
   obtain ⟨p,r,f⟩:∃ p r,t.fields=p::r:=by
    cases q:t.fields with
    | nil=>rw [q] at j;simp at j
    | cons p r=>exact ⟨p,r,rfl⟩
   have c:p∈t.fields:=by rw [f];simp
   have:=t.field_size _ c
   obtain ⟨a,i,l,u⟩:=Ph n p.2.2.2.1 (by omega) (Ty.small_field ht c) (A9 gt c)
   have g:=Zd0 d n p.2.2.2.1 (by omega) (Ty.small_field ht c) (A9 gt c) (by have:=Ty.depth_field c;omega)
   obtain rfl:a=lsS d p.2.2.2.1:=Option.some.inj (i.symm.trans g)
   rw [AP,EJ,Af k8,Ai (by decide),Ag k10,Ah rfl,Ah k10,f,show B1 (p::r) 0=some p from rfl,Ae,i,Ae,Ah (by unfold BM;omega)]
   rfl
  rw [Ai k10]
  by_cases k9:t.kind=9
  ·rw [Ah k9,(Zkv n t h ht gt k9).1]
   have:t.fields.map (lsT (AP n))=t.fields.map (lsT fun x=>some (lsS d x)):=List.map_congr_left fun p f=>by
    have a1:=t.field_size _ f
    have g:=Zd0 d n p.2.2.2.1 (by omega) (Ty.small_field ht f) (A9 gt f) (by have:=Ty.depth_field f;omega)
    rw [lsT,lsT,g]
   rw [this]
  ·rw [Ai k9,AP,EJ,Af k8,Ai (by decide),Af k10,Ai (by decide),Af k9,Ai (by decide)]
   rfl
def YG:Nat→Ty→Int
 | 0,_=>1
 | d+1,t=>t.fields.foldl (fun a p=>V3 a (YG d p.2.2.2.1)) (t.elem.foldl (fun a x=>V3 a (YG d x)) (lsS (d+1) t))
theorem Zbz:∀ (d n:Nat) (t:Ty),t.size+11≤n→t.small→t.Good→t.depth≤d→BJ n t=some (YG d t)
 | 0,n,t,_,_,_,h=>by have:=t.depth_eq;omega
 | d+1,0,t,h,_,_,_=>by omega
 | d+1,n+1,t,h,ht,gt,hd=>by
  have r:=t.lens
  have l:=ht.1
  have e:∀ (k m i:Nat) (a:Int),i+k=t.fields.length→k<m→BA (BJ n) n t m a i=some ((t.fields.drop i).foldl (fun a p=>V3 a (YG d p.2.2.2.1)) a):=by
   intro k
   induction k with
   | zero =>
    intro m i a j g
    obtain ⟨m,rfl⟩:∃ q,m=q+1:=⟨m-1,by omega⟩
    rw [BA,AC,Af (show ¬ i<t.fields.length by omega),Ai (by decide),List.drop_eq_nil_of_le (by omega)];rfl
   | succ k ih =>
    intro m i a j g
    obtain ⟨m,rfl⟩:∃ q,m=q+1:=⟨m-1,by omega⟩
    have c:i<t.fields.length:=by omega
    have b:=List.getElem_mem c
    have a1:=t.field_size _ b
    have f:=Zbz d n t.fields[i].2.2.2.1 (by omega) (Ty.small_field ht b) (A9 gt b) (by have:=Ty.depth_field b;omega)
    rw [BA,AC,Ag c,Ah rfl,AM c,Ae,f,Ae,Ah (AK (by omega)),List.drop_eq_getElem_cons c,List.foldl_cons]
    exact ih m (i+1) _ (by omega) (by omega)
  have o:∀ (k m i:Nat) (a:Int),i+k=t.elem.length→k<m→BL (BJ n) n t m a i=some (t.fields.foldl (fun a p=>V3 a (YG d p.2.2.2.1)) ((t.elem.drop i).foldl (fun a x=>V3 a (YG d x)) a)):=by
   intro k
   induction k with
   | zero =>
    intro m i a j g
    obtain ⟨m,rfl⟩:∃ q,m=q+1:=⟨m-1,by omega⟩
    rw [BL,AC,Af (show ¬ i<t.elem.length by omega),Ai (by decide),List.drop_eq_nil_of_le (by omega),HZ]
    have:=e t.fields.length n 0 a (by omega) (by omega)
    rw [List.drop_zero] at this
    exact this
   | succ k ih =>
    intro m i a j g
    obtain ⟨m,rfl⟩:∃ q,m=q+1:=⟨m-1,by omega⟩
    have c:i<t.elem.length:=by omega
    have b:=List.getElem_mem c
    have a1:=t.elem_size _ b
    have f:=Zbz d n t.elem[i] (by omega) (Ty.small_elem ht b) (Ea gt b) (by have:=Ty.depth_elem b;omega)
    rw [BL,AC,Ag c,Ah rfl,AM c,Ae,f,Ae,Ah (AK (by omega)),List.drop_eq_getElem_cons c,List.foldl_cons]
    exact ih m (i+1) _ (by omega) (by omega)
  have:=o t.elem.length n 0 (lsS (d+1) t) (by omega) (by omega)
  rw [List.drop_zero] at this
  rw [BJ,FA,Zd0 (d+1) n t (by omega) ht gt hd,Ae,YG]
  exact this
theorem QQ {α:Type} (g:α→Int):∀ (l:List α) (a:Int),a≤l.foldl (fun a x=>V3 a (g x)) a∧∀ x∈l,g x≤l.foldl (fun a x=>V3 a (g x)) a
 | [],a=>⟨Int.le_refl _,by simp⟩
 | x::r,a=>by
  obtain ⟨c,b⟩:=QQ g r (V3 a (g x))
  have:a≤V3 a (g x)∧g x≤V3 a (g x):=by unfold V3;split<;>omega
  rw [List.foldl_cons]
  refine ⟨by omega,fun y hy=>?_⟩
  rcases List.mem_cons.1 hy with rfl | hy
  ·omega
  ·exact b y hy
theorem Ty.Fine.up {d:Nat} {t:Ty} (h:t.Fine d):t.Fine (d+1):=by
 induction h with
 | mk d t own he hf hd i1 i2=>exact .mk (d+1) t own i1 i2 hd
theorem KT (n:Nat) (t:Ty) (hn:3000000≤n) (ht:t.small) (hF:t.Fine 8):Bz n t=some (if 4096<YG 12 t then 9 else 0):=by
 have a:=ht.1
 rw [Bz,S0 n 8 t 1 4096 (by omega) ht hF (by decide) (by decide) (by omega) (by decide),Ae,Ai (by simp),Zbz 12 n t (by omega) ht hF.good ht.2.1,Ae]
 by_cases c:4096<YG 12 t
 ·rw [Ag c,Ah rfl,Ah c]
 ·rw [Af c,Ai (by decide),Ai c]
theorem Zf2:∀ (d e:Nat) (t:Ty),t.small→t.Good→t.depth≤d→t.depth≤e→YG d t=YG e t:=fun d e t a gt b c =>
 Option.some.inj ((Zbz d (t.size+11) t (Nat.le_refl _) a gt b).symm.trans (Zbz e (t.size+11) t (Nat.le_refl _) a gt c))
theorem Xd (n:Nat) (t x:Ty) (hn:3000000≤n) (ht:t.small) (hF:t.Fine 8) (h0:Bz n t=some 0) (hx:x∈t.elem):Bz n x=some 0∧x.Fine 8:=by
 have c:x.Fine 8:=(Ty.Fine.elem hF hx).up
 have sx:=Ty.small_elem ht hx
 have dx:=Ty.depth_elem hx
 have e:=ht.2.1
 rw [KT n t hn ht hF] at h0
 have d:¬ 4096<YG 12 t:=fun q=>by rw [Ah q] at h0;cases h0
 rw [YG] at d
 have a:=(QQ (fun x=>YG 11 x) t.elem (lsS 12 t)).2 x hx
 have b:=(QQ (fun p:TF=>YG 11 p.2.2.2.1) t.fields (t.elem.foldl (fun a x=>V3 a (YG 11 x)) (lsS 12 t))).1
 rw [KT n x hn sx c,Ai]
 ·exact ⟨rfl,c⟩
 ·rw [Zf2 12 11 x sx c.good (by omega) (by omega)]
  exact fun q=>d (Int.lt_of_lt_of_le q (Int.le_trans a b))
theorem Zw (n:Nat) (t:Ty) (p:TF) (hn:3000000≤n) (ht:t.small) (hF:t.Fine 8) (h0:Bz n t=some 0) (hp:p∈t.fields):Bz n p.2.2.2.1=some 0∧p.2.2.2.1.Fine 8:=by
 have c:p.2.2.2.1.Fine 8:=(Ty.Fine.field hF hp).up
 have sx:=Ty.small_field ht hp
 have dx:=Ty.depth_field hp
 have e:=ht.2.1
 rw [KT n t hn ht hF] at h0
 have d:¬ 4096<YG 12 t:=fun q=>by rw [Ah q] at h0;cases h0
 rw [YG] at d
 have b:=(QQ (fun p:TF=>YG 11 p.2.2.2.1) t.fields (t.elem.foldl (fun a x=>V3 a (YG 11 x)) (lsS 12 t))).2 p hp
 rw [KT n _ hn sx c,Ai]
 ·exact ⟨rfl,c⟩
 ·rw [Zf2 12 11 _ sx c.good (by omega) (by omega)]
  exact fun q=>d (Int.lt_of_lt_of_le q b)
theorem ON (n:Nat) (t:Ty) (hn:3000000≤n) (ht:t.small) (hF:t.Fine 8) (h0:Bz n t=some 0):C7 n t=some (Av 8 t)∧(Av 8 t).size≤4096:=by
 have h:=Zba n t hn ht hF h0
 have a:=ht.1
 refine ⟨?_,h⟩
 rw [C7,Q6,h0,Ae,Ai (by decide),Q3 n 8 t (by omega) ht hF h,Ae,Ae]
def Hf (n:Nat)  (b3_k13_4:List Vl):Option Vl :=
 some (Vl.mk 8 0 0 (⟨#[]⟩:ByteArray) b3_k13_4 ([]))
def DY (n:Nat) (h:Int) (q:Vl):Nat→Int→(List Vl)→Option Vl
 | 0,_,_=>none
 | m+1,b,b3_l16_4 =>
  if decide (b<h) then
   (Bm n q).bind fun g =>
   if (b3_l16_4.length+1)*88≤140737488355328∧b3_l16_4.length+1≤4611686018427387904 then
    if BM (b+1) then
     (DY n h q m) (b+1) (b3_l16_4++[g])
    else none
   else none
  else
   Hf n b3_l16_4
def D8 (n:Nat) (q:Ty) (b:Int):Option Vl :=
 (C7 n q).bind fun g =>
 (Nl g).bind fun h =>
 if BM (b*h) then
  if decide (4096<(b*h)) then
   some (Vl.mk 0 0 0 (⟨#[]⟩:ByteArray) ([]) ([]))
  else
   DY n b g n 0 ([])
 else none
theorem Ko (w0:World) (hT:Lib.Utf8Tabs 2 3 w0) (n:Nat) (B:Am) (Rw:Aq) (L:Ar) (a0:Ty) (a1:Int) (r:Vl) (h:D8 n a0 a1=some r) :
  ACalls Tryz.prog w0 119 [.agg (a0.cs),Ak a1] ⟨B,Rw,L⟩ fun x st=>∃ (o0:VO) (rows:Aq),x = .agg ([Ak r.kind,Ak r.int,Ak r.scale,.val (.string r.text),Ly o0 r.list.length,.list (r.fields.map BV) .none])∧st=⟨B,rows,L⟩∧Owns Rw rows [] .none [(o0,6,(r.list).flatMap fun x=>(Bv x).cells)]:=by
 rw [D8] at h
 refine ACalls.finV (Sm [true,true,true,true,false,true] (rs:=[.cell 4 34]) Tryz.func119 rfl rfl Tryz.ntmps119 (Bl Tryz.func119 rfl (by decide)) (Nat.le_of_ble_eq_true rfl) ?_)
 intro M0 W0 H y v i U
 dsimp only at H y v i U
 simp only [AG]
 have j:=Owns.none Rw
 have hs:=YB
 refine rg [1,2,4] hs ?_
 obtain ⟨F,K,h⟩:=bind_some h
 refine rc 2 [1,4,5] hs ?_;intro K2 D
 refine As _ (E5 w0 hT n _ _ _ a0 _ K) (hv hs) ?_
 refine ne hs D ?_
 clear D
 apply An;intro K4 G
 obtain ⟨V,J,h⟩:=bind_some h
 obtain ⟨Q,h⟩:=Au h
 refine rc 2 [1,4,5,13] hs ?_;intro K5 E
 refine As _ (Zt w0 _ _ _ F _ J) (hv hs) ?_
 refine ne hs E ?_
 clear E
 refine BN h hs ?_ ?_<;>intro hs h
 ·have k:=hs.1
  refine rg [4] hs ?_
  refine JV (B.length+1) 4 (by simp only [EZ,D3,HH,F5];rfl) rfl ?_;simp +decide only [go_sem,Nat.reduceAdd,List.set_cons_zero,List.set_cons_succ]
  have j:=j.nilV 6
  apply Df;simp +decide only [go_sem,Nat.reduceAdd,k]
  have hgt:=Option.some.inj h;subst hgt
  have l:=j.underV
  simp only [List.mem_cons,List.not_mem_nil,or_false,forall_eq_or_imp,forall_eq] at l
  refine Zai j i rfl (by (simp +decide only [go_sem,Nat.reduceAdd,k])<;>(try (repeat' apply Ad))<;>first | omega | assumption) (by simp only [List.flatMap_nil,List.mem_cons,List.not_mem_nil,or_false,forall_eq_or_imp,forall_eq,false_implies,implies_true]) ⟨_,_,?_,rfl,j.sub (List.nil_sublist _)⟩
  first | rfl | (simp +decide only [go_sem,Nat.reduceAdd,k];done) | (simp +decide only [go_sem,Nat.reduceAdd,Vl.cs,Ty.cs,k];done)
 have k:=hs.1
 refine sk [1,4,5] hs G ?_
 clear G
 refine rg [1,4,5,6] hs ?_
 refine AA (fun e st=>∃ (c:List Vl) (d:VO) (Xk13:Am) (Rk13:Aq),e=[(4,true,.box (B.length+1) 0),(6,true,.box (B.length+3) 0)]∧st=⟨B++([a0.cs,AX,F.cs,[Ak 8,Ak 0,Ak 0,.val (.string (⟨#[]⟩:ByteArray)),Ly d c.length,.list ([]) .full]]++Xk13),Rk13,L⟩∧Owns Rw Rk13 [] .none [(d,6,c.flatMap fun x=>(Bv x).cells)]∧Hf n c=some r) ?_ ?_
 ·intro K14 z
  refine rg [4,5,6,16,17] hs ?_
  apply Ao
  refine JV (B.length+3) 4 (by simp only [EZ,D3,HH,F5];rfl) rfl ?_;simp +decide only [go_sem,Nat.reduceAdd,List.set_cons_zero,List.set_cons_succ]
  have j:=j.nilV 6
  refine AL (fun m e st=>∃ (g:Int) (a:List Vl) (b:VO) (Xl16:Am) (Rl16:Aq),e=[(4,true,.box (B.length+1) 0),(5,true,.box (B.length+2) 0),(6,true,.box (B.length+3) 0),(16,true,Ak a1),(17,true,Ak g)]∧st=⟨B++([a0.cs,AX,F.cs,[Ak 8,Ak 0,Ak 0,.val (.string (⟨#[]⟩:ByteArray)),Ly b a.length,.list ([]) .full]]++Xl16),Rl16,L⟩∧Owns Rw Rl16 [] .none [(b,6,a.flatMap fun x=>(Bv x).cells)]∧DY n a1 F m g a=some r) n ⟨0,([]),.nil,([]),Rw,ef hs,ef hs,Owns.eqV (j) V5,h⟩ ?_
  rintro ml16 e st ⟨g,a,b,Xl16,Rl16,rfl,rfl,j,h⟩ Ul16 Vl16
  cases ml16 with
  | zero=>cases h
  | succ ml16 =>
  rw [DY] at h
  have l:=j.underV
  simp only [List.mem_cons,List.not_mem_nil,or_false,forall_eq_or_imp,forall_eq] at l
  refine AY H y v rfl i j ow ow ?_ (vu @ZR)
  refine rg [4,5,6,16,17,18] hs ?_
  apply An;intro K19 q
  refine BN h hs ?_ ?_<;>intro hs h
  rotate_left
  ·refine sx [4,6] hs z ?_
   exact ⟨a,b,([]),Rl16,ef hs,ef hs,Owns.eqV (j) V5,h⟩
  refine sk [4,5,6,16,17] hs q ?_
  clear q
  apply An;intro K21 u
  apply Ao
  obtain ⟨w,C,h⟩:=bind_some h
  obtain ⟨t,h⟩:=Au h
  obtain ⟨N,p,j,o⟩:=j.appendV (P:=Tryz.prog) (n:=a.length) (m:=1) LS (by rw [HF];rfl) (by decide) ((CZ (f:=Bv) (sz:=6) (fun _=>by simp +decide only [go_sem]) _)) (by decide) t.1 t.2 [Bv w] rfl ((a++[w]).flatMap fun x=>(Bv x).cells) (by simp only [List.flatMap_append,List.flatMap_cons,List.flatMap_nil,List.append_nil,List.nil_append,Zfo])
  simp only [List.mem_singleton,forall_eq,Hg,G6,He,Hz,Ha,GK,Fh,Fa,G2,Eg,Eh,Fp,Fq,E9] at o
  have hs:=Ad o hs
  refine dk 5 2 1 [4,5,6,16,17] hs Oo ?_
  refine As _ (DO w0 n _ _ _ F _ C) (hv hs) ?_
  refine dn hs u ?_
  clear u
  obtain ⟨O,h⟩:=Au h
  refine rl [4,5,6,16,17] hs (fun e s=>Vl16 ml16 e s (Nat.lt_succ_self _)) ?_
  exact ⟨(g+1),(a++[w]),N,([]),p,ef hs,ef hs,Owns.eqV (j) V5,h⟩
 ·clear h;rintro e st ⟨c,d,Xk13,Rk13,rfl,rfl,j,h⟩
  rw [Hf] at h
  have l:=j.underV
  simp only [List.mem_cons,List.not_mem_nil,or_false,forall_eq_or_imp,forall_eq] at l
  refine AY H y v rfl i j ow ow ?_ (vu @ZR)
  refine rg [4] hs ?_
  apply Df;simp +decide only [go_sem,Nat.reduceAdd,k]
  have hgt:=Option.some.inj h;subst hgt
  have l:=j.underV
  simp only [List.mem_cons,List.not_mem_nil,or_false,forall_eq_or_imp,forall_eq] at l
  refine Zai j i rfl (by (simp +decide only [go_sem,Nat.reduceAdd,k])<;>(try (repeat' apply Ad))<;>first | omega | assumption) (vu @ZR) ⟨_,_,?_,rfl,j.sub (List.nil_sublist _)⟩
  first | rfl | (simp +decide only [go_sem,Nat.reduceAdd,k];done) | (simp +decide only [go_sem,Nat.reduceAdd,Vl.cs,Ty.cs,k];done)
def HO (b:Int):Option Vl :=
 if 0≤b∧b≤9223372036854775807∧((⟨#[97]⟩:ByteArray)).size*b.toNat≤140737488355328 then
  some (A4 ((⟨(Lib.repeatL ((⟨#[97]⟩:ByteArray)).data.toList b.toNat).toArray⟩:ByteArray)))
 else none
theorem Qn (w0:World) (B:Am) (Rw:Aq) (L:Ar) (a0:Int) (r:Vl) (h:HO a0=some r) :
  ACalls Tryz.prog w0 193 [Ak a0] ⟨B,Rw,L⟩ fun x st=>x = .agg (r.cs)∧st=⟨B,Rw,L⟩:=by
 rw [HO] at h
 refine hd [.cell 2 34] Tryz.func193 Tryz.ntmps193 fun M0 W0 e d c b g f hs=>?_
 simp only [AG]
 exact go (tg (a:=([0,2],[2],()))) h hs e d c b f (q2 (NZ w0) (KX w0)) trivial
def Hy (n:Nat) (b:List Vl):Option Vl :=
 (B1 b 0).bind fun g =>
 some (g)
def Dc (n:Nat) (a0:Ty) (y:Ty) (g:List Vl):Nat→Int→Option Vl
 | 0,_=>none
 | m+1,b =>
  if decide (b<(g.length:Int)) then
   (B1 g b).bind fun h =>
   (AU n a0 y h).bind fun q =>
   if !q.2 then
    some (h)
   else
    if BM (b+1) then
     (Dc n a0 y g m) (b+1)
    else none
  else
   Hy n g 
def BD (n:Nat) (h:Ty) (g:Ty) (b:List Vl):Option Vl :=
 Dc n h g b n 0
def Br (n:Nat) (h:Ty) (q:Ty):Nat→(List Vl)→Int→Option Vl
 | 0,_,_=>none
 | m+1,g,b =>
  if (decide (b≤126))&&(decide (((if h.min<1 then 1 else h.min))≤h.max)) then
   if BM (((if h.min<1 then 1 else h.min))-1) then
    if 0≤((if h.min<1 then 1 else h.min))-1∧((if h.min<1 then 1 else h.min))-1≤9223372036854775807∧((⟨#[97]⟩:ByteArray)).size*(((if h.min<1 then 1 else h.min))-1).toNat≤140737488355328 then
     if -2147483648≤b∧b≤2147483647 then
      if ((⟨(Lib.repeatL ((⟨#[97]⟩:ByteArray)).data.toList (((if h.min<1 then 1 else h.min))-1).toNat).toArray⟩:ByteArray)).size+(Utf8.encode b).size≤9223372036854775807 then
       if (g.length+1)*88≤140737488355328∧g.length+1≤4611686018427387904 then
        if BM (b+1) then
         (Br n h q m) (g++([A4 (((⟨(Lib.repeatL ((⟨#[97]⟩:ByteArray)).data.toList (((if h.min<1 then 1 else h.min))-1).toNat).toArray⟩:ByteArray))++(Utf8.encode b))])) (b+1)
        else none
       else none
      else none
     else none
    else none
   else none
  else
   BD n h q g
def EA (n:Nat) (g:Ty) (y:Ty) (b:List Vl):Option Vl :=
 if decide ((b.length:Int)=0) then
  (HO g.min).bind fun q =>
  (HO g.max).bind fun h =>
  if (b.length+2)*88≤140737488355328∧b.length+2≤4611686018427387904 then
   Br n g y n (b++([q,h])) 32
  else none
 else
  BD n g y b
def CW (n:Nat) (h:Ty) (y:Ty):Nat→(List Vl)→Int→Option Vl
 | 0,_,_=>none
 | m+1,g,b =>
  if decide (b<(h.words.length:Int)) then
   (B1 h.words b).bind fun q =>
   if (g.length+1)*88≤140737488355328∧g.length+1≤4611686018427387904 then
    if BM (b+1) then
     (CW n h y m) (g++([A4 q])) (b+1)
    else none
   else none
  else
   EA n h y g
def ER (n:Nat) (g:Ty) (b:Ty):Option Vl :=
 CW n g b n ([]) 0
theorem P6 (w0:World) (n:Nat) (B:Am) (Rw:Aq) (L:Ar) (a0:Ty) (a1:Ty) (r:Vl) (h:ER n a0 a1=some r) :
  ACalls Tryz.prog w0 118 [.agg (a0.cs),.agg (a1.cs)] ⟨B,Rw,L⟩ fun x st=>x = .agg (r.cs)∧st=⟨B,Rw,L⟩:=by
 rw [ER] at h
 refine hd [.cell 4 34] Tryz.func118 Tryz.ntmps118 fun M0 W0 F w v f hu o hs=>?_
 simp only [AG]
 refine rg [2,3,4] hs ?_
 refine rg [2,3,4,5] hs ?_
 refine AA (fun e st=>∃ (c:List Vl) (j:Ev.Own),Ck e st B Rw L [(2,true,.box B.length 0),(3,true,.box (B.length+1) 0),(4,true,.box (B.length+2) 0),(5,true,.list (c.map Bv) j)] [a0.cs,a1.cs,AX] [(6,c.length,j)] (EA n a0 a1 c=some r)) ?_ ?_
 ·intro K5 aa
  refine rg [2,3,4,5,15,16,17] hs ?_
  apply Ao
  refine AL (fun m e st=>∃ (q:List Vl) (p:Int) (u:Ev.Own),Ck e st B Rw L [(2,true,.box B.length 0),(3,true,.box (B.length+1) 0),(4,true,.box (B.length+2) 0),(5,true,.list (q.map Bv) u),(15,true,.list (a0.words.map V6) .none),(16,true,Ak (a0.words.length:Int)),(17,true,Ak p)] [a0.cs,a1.cs,AX] [(6,q.length,u)] (CW n a0 a1 m q p=some r)) n ⟨([]),0,.full,([]),Rw,ef hs,ef hs,Owns.of_eq ((o).full 6 0) Kr,h⟩ ?_
  rintro ml7 e st ⟨q,p,u,Xl7,Rl7,rfl,rfl,o,h⟩ Ul7 Vl7
  cases ml7 with
  | zero=>cases h
  | succ ml7 =>
  rw [CW] at h
  exact go (tg (a:=([2,3,4,5,15,16,17,18],([2,3,4,5,15,16,17],[2,3,4,5,7,15,16,17],[2,3,4,5,15,16,17],[2,3,4,5,15,16,17],()),[2,3,4,5],()))) h hs F w v f o (q2 (ae LS HF) (KX w0)) (q2 aa (fun e s=>Vl7 ml7 e s (Nat.lt_succ_self _)))
 ·clear h;rintro e st ⟨c,j,Xk4,Rk4,rfl,rfl,o,h⟩
  rw [EA] at h
  have hU:=o.unders
  simp only [List.mem_cons,List.not_mem_nil,or_false,forall_eq_or_imp,forall_eq] at hU
  refine td F w v f o ?_
  refine AA (fun e st=>∃ (b:List Vl) (k:AV),Ck e st B Rw L [(2,true,.box B.length 0),(3,true,.box (B.length+1) 0),(4,true,.box (B.length+2) 0),(5,true,k)] [a0.cs,a1.cs,AX] [] (k.pub = .list (b.map Bv) .none∧BD n a0 a1 b=some r)) ?_ ?_
  ·intro K21 E
   refine rg [2,3,4,5,29] hs ?_
   refine BN h hs ?_ ?_<;>intro hs h
   ·obtain ⟨U,N,h⟩:=bind_some h
    obtain ⟨K,H,h⟩:=bind_some h
    obtain ⟨C,h⟩:=Au h
    obtain ⟨Z,y,o,i⟩:=o.append (P:=Tryz.prog) LS (by rw [HF];rfl) (by decide) 2 C.1 C.2
    replace i:=fun (ys:List AV) B L Y=>i (c.map Bv) ys B L Y Kr
    replace i:=fun B L Y=>i (([U,K]).map Bv) B L Y Kr (by simp +decide only [go_sem,Nat.reduceAdd])
    try simp only [List.mem_singleton,List.mem_cons,List.not_mem_nil,or_false,forall_eq_or_imp,forall_eq,List.map_append,List.map_cons,List.map_nil,Hg,G6,He,Hz,Ha,GK,Fh,Fa,G2,Eg,Eh,Fp,Fq,E9] at i
    have hs:=Ad i hs
    apply An;intro K24 z
    refine dk 8 3 1 [2,3,4,5] hs Oo ?_
    refine As _ (Qn w0 _ _ _ a0.min _ N) (hv hs) ?_
    refine nc hs ?_
    refine As _ (Qn w0 _ _ _ a0.max _ H) (hv hs) ?_
    refine dn hs z ?_
    clear z
    refine rg [2,3,4,5,8] hs ?_
    refine rg [2,3,4,5,8,9] hs ?_
    apply Ao
    refine AL (fun m e st=>∃ (d:List Vl) (t:Int) (g:Ev.Own),Ck e st B Rw L [(2,true,.box B.length 0),(3,true,.box (B.length+1) 0),(4,true,.box (B.length+2) 0),(5,true,.list (d.map Bv) g),(8,true,Ak ((if a0.min<1 then 1 else a0.min))),(9,true,Ak t)] [a0.cs,a1.cs,AX] [(6,d.length,g)] (Br n a0 a1 m d t=some r)) n ⟨(c++([U,K])),32,Z,([]),y,ef hs,ef hs,Owns.of_eq (o) Kr,h⟩ ?_
    rintro ml33 e st ⟨d,t,g,Xl33,Rl33,rfl,rfl,o,h⟩ Ul33 Vl33
    cases ml33 with
    | zero=>cases h
    | succ ml33 =>
    rw [Br] at h
    have hU:=o.unders
    simp only [List.mem_cons,List.not_mem_nil,or_false,forall_eq_or_imp,forall_eq] at hU
    refine td F w v f o ?_
    apply An;intro K34 D
    refine rg [2,3,4,5,8,9,49] hs ?_
    refine BN h hs ?_ ?_<;>intro hs h
    rotate_left
    ·refine sx [2,3,4,5] hs E ?_
     exact ⟨d,_,([]),Rl33,ef hs,ef hs,(o).sub (List.sublist_append_left [] [(6,d.length,g)]),ef hs,h⟩
    refine sk [2,3,4,5,8,9] hs D ?_
    clear D
    apply An;intro K37 J
    apply Ao
    obtain ⟨ad,h⟩:=Au h
    obtain ⟨af,h⟩:=Au h
    obtain ⟨ab,h⟩:=Au h
    obtain ⟨Q,h⟩:=Au h
    have G:=Q
    try simp +decide only [go_sem] at G
    exact go (tg (a:=([2,3,4,5,8,9],[2,3,4,5,8,9],()))) h hs F w v f o (q3 (ae LS HF) (NZ w0) (KX w0)) (q2 J (fun e s=>Vl33 ml33 e s (Nat.lt_succ_self _)))
   refine sk [2,3,4,5] hs E ?_
   exact ⟨c,_,([]),Rk4,ef hs,ef hs,(o).sub (List.sublist_append_left [] [(6,c.length,j)]),ef hs,h⟩
  ·clear h;rintro e st ⟨b,k,Xk20,Rk20,rfl,rfl,o,V,h⟩
   rw [BD] at h
   refine Zih 5 rfl ?_
   rw [V]
   refine Jf (EY [2,3,4,5] _) ?_ (Dx _ _);simp +decide only [go_sem,Nat.reduceAdd]
   show F3 _ _ _ _ _ _ _ _ [(2,true,.box B.length 0),(3,true,.box (B.length+1) 0),(4,true,.box (B.length+2) 0),(5,true,.list (b.map Bv) .none)] ⟨B++([a0.cs,a1.cs,AX]++Xk20),Rk20,L⟩
   refine td F w v f o ?_
   refine AA (fun e st=>Ck e st B Rw L [(4,true,.box (B.length+2) 0),(5,true,.list (b.map Bv) .none)] [a0.cs,a1.cs,AX] [] (Hy n b  = some r)) ?_ ?_
   ·intro K49 O
    refine rg [2,3,4,5,63,64,65] hs ?_
    apply Ao
    refine AL (fun m e st=>∃ (l:Int),Ck e st B Rw L [(2,true,.box B.length 0),(3,true,.box (B.length+1) 0),(4,true,.box (B.length+2) 0),(5,true,.list (b.map Bv) .none),(63,true,.list (b.map Bv) .none),(64,true,Ak (b.length:Int)),(65,true,Ak l)] [a0.cs,a1.cs,AX] [] (Dc n a0 a1 b m l=some r)) n ⟨0,([]),Rk20,ef hs,ef hs,o,h⟩ ?_
    rintro ml51 e st ⟨l,Xl51,Rl51,rfl,rfl,o,h⟩ Ul51 Vl51
    cases ml51 with
    | zero=>cases h
    | succ ml51 =>
    rw [Dc] at h
    exact go (tg (a:=([2,3,4,5,63,64,65,66],([2,3,4,5,63,64,65],[2,3,4,5,11,63,64,65],[2,3,4,5,11,13,63,64,65],[2,3,4,5,11,63,64,65,77],([4],()),[2,3,4,5,63,64,65],[2,3,4,5,63,64,65],()),[4,5],()))) h hs F w v f o (q1 (F6 w0 n)) (q2 O (fun e s=>Vl51 ml51 e s (Nat.lt_succ_self _)))
   ·clear h;rintro e st ⟨Xk48,Rk48,rfl,rfl,o,h⟩
    rw [Hy] at h
    exact go (tg (a:=([4],()))) h hs F w v f o trivial trivial
def DU (rec:Ty→Ty→Option Vl) (n:Nat)  (b:Int):Option Vl :=
 if decide (b=0) then
  if 0≤0∧0*1≤140737488355328∧0≤4611686018427387904 then
   some (MN (⟨#[]⟩:ByteArray))
  else none
 else
  if 0≤b∧b≤140737488355328 then
   if b.toNat≤9223372036854775807 then
    some (MN (QB b.toNat))
   else none
  else none
def Hi (rec:Ty→Ty→Option Vl) (n:Nat) (b:Vl) (b4_k84_4:List Vl):Option Vl :=
 some (Vl.mk b.kind b.int b.scale b.text b4_k84_4 b.fields)
def EU (rec:Ty→Ty→Option Vl) (n:Nat) (g:Ty):Option Vl :=
 (C7 n g).bind fun b =>
 some (b)
def EE (rec:Ty→Ty→Option Vl) (n:Nat) (g:Ty) (y:Ty):Nat→Int→Option Vl
 | 0,_=>none
 | m+1,b =>
  if decide (b<3) then
   (B1 ([g.min,g.max,(if g.max<g.min+1 then g.max else g.min+1)]) b).bind fun h =>
   (AU n g y (Vl.mk g.kind h g.scale (⟨#[]⟩:ByteArray) ([]) ([]))).bind fun q =>
   if !q.2 then
    some (Vl.mk g.kind h g.scale (⟨#[]⟩:ByteArray) ([]) ([]))
   else
    if BM (b+1) then
     (EE rec n g y m) (b+1)
    else none
  else
   EU rec n g 
def Em (rec:Ty→Ty→Option Vl) (n:Nat) (q:Ty) (a1:Ty):Nat→Int→Option Vl
 | 0,_=>none
 | m+1,b =>
  if decide (b<(a1.fields.length:Int)) then
   (B1 a1.fields b).bind fun g =>
   (Gq (AN n) n q g).bind fun y110 =>
   if y110 then
    if BM (b+1) then
     (Em rec n q a1 m) (b+1)
    else none
   else
    (C9 n q.fields g.1).bind fun h =>
    if !h.2 then
     (C7 n q).bind fun y =>
     some (y)
    else
     (AN n h.1.2.2.2.1 g.2.2.2.1).bind fun y121 =>
     if y121 then
      (C7 n q).bind fun y124 =>
      some (y124)
     else
      (C7 n q).bind fun y126 =>
      (rec h.1.2.2.2.1 g.2.2.2.1).bind fun y127 =>
      (Ia n y126 h.1.2.1 y127).bind fun y128 =>
      some (y128.1)
  else
   EU rec n q 
def En (rec:Ty→Ty→Option Vl) (n:Nat) (a0:Ty) (a1:Ty):Nat→Int→Option Vl
 | 0,_=>none
 | m+1,b =>
  if decide (b<(a0.fields.length:Int)) then
   (B1 a0.fields b).bind fun g =>
   (FM (AN n) n g a1).bind fun y142 =>
   if y142 then
    if BM (b+1) then
     (En rec n a0 a1 m) (b+1)
    else none
   else
    (C9 n a1.fields g.1).bind fun h =>
    if !h.2 then
     (C7 n g.2.2.2.1).bind fun q =>
     (EP n g.2.1 q).bind fun y152 =>
     some (y152)
    else
     (rec g.2.2.2.1 h.1.2.2.2.1).bind fun y =>
     (EP n g.2.1 y).bind fun y155 =>
     some (y155)
  else
   EU rec n a0 
def AZ (rec:Ty→Ty→Option Vl) (n:Nat) (b:Ty) (g:Ty) (q:Bool):Option Vl :=
 if q then
  if BM (b.min+1) then
   EE rec n b g n 0
  else none
 else
  if decide (g.kind=5) then
   if decide (b.min<g.min) then
    DU rec n b.min
   else
    DU rec n b.max
  else
   if decide (g.kind=4) then
    (ER n b g).bind fun y56 =>
    some (y56)
   else
    if decide (g.kind=8) then
     (B1 b.elem 0).bind fun y =>
     if decide (b.min<g.min) then
      (D8 n y b.min).bind fun y64 =>
      some (y64)
     else
      if decide (g.max<b.max) then
       if BM (g.max+1) then
        (D8 n y ((if b.min<g.max+1 then g.max+1 else b.min))).bind fun y73 =>
        some (y73)
       else none
      else
       (D8 n y ((if b.min<1 then 1 else b.min))).bind fun h =>
       if decide (0<(h.list.length:Int)) then
        (B1 g.elem 0).bind fun x89 =>
        (rec y x89).bind fun y90 =>
        (B1 h.list 0).bind fun x91 =>
        Hi rec n h (h.list.set 0 y90)
       else
        Hi rec n h h.list
    else
     if decide (g.kind=9) then
      Em rec n b g n 0
     else
      if decide (g.kind=10) then
       En rec n b g n 0
      else
       EU rec n b 
def I1 (rec:Ty→Ty→Option Vl) (n:Nat) (g:Ty) (b:Ty):Option Vl :=
 if !(DC g.kind b.kind) then
  (C7 n g).bind fun h =>
  some (h)
 else
  if decide (b.kind=2) then
   AZ rec n g b true
  else
   if decide (b.kind=3) then
    AZ rec n g b true
   else
    if decide (b.kind=6) then
     AZ rec n g b true
    else
     AZ rec n g b (decide (b.kind=7))
def CU:Nat→Ty→Ty→Option Vl
 | 0,_,_=>none
 | n+1,g,b=>I1 (CU n) n g b
def Kv (w0:World) (F:Ty→Ty→Option Vl):Prop:=∀ (B:Am) (Rw:Aq) (L:Ar) (g:Ty) (b:Ty) (r:Vl),F g b=some r→ACalls Tryz.prog w0 44 [.agg (g.cs),.agg (b.cs)] ⟨B,Rw,L⟩ fun x st=>x = .agg (r.cs)∧st=⟨B,Rw,L⟩
theorem Rt (w0:World) (hT:Lib.Utf8Tabs 2 3 w0) (rec:Ty→Ty→Option Vl) (ih:Kv w0 rec) (n:Nat):Kv w0 (I1 rec n):=by
 intro B Rw L a0 a1 r h
 rw [I1] at h
 refine hd [.cell 4 34] Tryz.func44 Tryz.ntmps44 fun M0 W0 U l j b hu d hs=>?_
 simp only [AG]
 refine rg [2,3,4] hs ?_
 apply An;intro K2 b6
 refine rc 2 [2,3,4,28] hs ?_;intro K3 bz
 refine As _ (Jd w0 _ _ _ a0.kind a1.kind) (hv hs) ?_
 refine ne hs bz ?_
 clear bz
 refine BN h hs ?_ ?_<;>intro hs h
 ·have O:=hs.1
  exact go (tg (a:=([4],()))) h hs U l j b d (q1 (E5 w0 hT n)) trivial
 have O:=hs.1
 refine sk [2,3,4] hs b6 ?_
 clear b6
 refine AA (fun e st=>Ck e st B Rw L [(2,true,.box B.length 0),(4,true,.box (B.length+2) 0)] [a0.cs,a1.cs,AX] [] (EU rec n a0  = some r)) ?_ ?_
 ·intro K9 a4
  refine rg [2,3,4,32] hs ?_
  apply Ao
  refine AA (fun e st=>∃ (J:Bool),Ck e st B Rw L [(2,true,.box B.length 0),(3,true,.box (B.length+1) 0),(4,true,.box (B.length+2) 0),(32,true,Ak a1.kind),(33,true,.val (.bool J))] [a0.cs,a1.cs,AX] [] (AZ rec n a0 a1 J=some r)) ?_ ?_
  ·intro K13 bt
   exact go (tg (a:=([2,3,4,32,33],([2,3,4,32,33],()),[2,3,4,32,33],([2,3,4,32,33],()),[2,3,4,32,33],([2,3,4,32,33],()),[2,3,4,32,33],()))) h hs U l j b d trivial (q1 bt)
  ·clear h;rintro e st ⟨J,Xk12,Rk12,rfl,rfl,d,h⟩
   rw [AZ] at h
   refine td U l j b d ?_
   refine BN h hs ?_ ?_<;>intro hs h
   ·have C:=hs.1
    obtain ⟨cy,h⟩:=Au h
    refine rg [2,3,4,48,49,50] hs ?_
    apply Ao
    refine AL (fun m e st=>∃ (H:Int),Ck e st B Rw L [(2,true,.box B.length 0),(3,true,.box (B.length+1) 0),(4,true,.box (B.length+2) 0),(48,true,.list (([a0.min,a0.max,(if a0.max<a0.min+1 then a0.max else a0.min+1)]).map avI) .full),(49,true,Ak 3),(50,true,Ak H)] [a0.cs,a1.cs,AX] [] (EE rec n a0 a1 m H=some r)) n ⟨0,([]),Rk12,ef hs,ef hs,d,h⟩ ?_
    rintro ml23 e st ⟨H,Xl23,Rl23,rfl,rfl,d,h⟩ Ul23 Vl23
    cases ml23 with
    | zero=>cases h
    | succ ml23 =>
    rw [EE] at h
    refine td U l j b d ?_
    refine rg [2,3,4,48,49,50,51] hs ?_
    apply An;intro K25 a6
    refine BN h hs ?_ ?_<;>intro hs h
    rotate_left
    ·refine sx [2,4] hs a4 ?_
     exact ⟨([]),Rl23,ef hs,ef hs,d,h⟩
    refine sk [2,3,4,48,49,50] hs a6 ?_
    clear a6
    apply An;intro K27 b2
    apply Ao
    obtain ⟨c1,b4,h⟩:=bind_some h
    obtain ⟨cg,bl,bj⟩:=B9 b4
    have am:=C5 (f:=avI) bj
    simp only [List.map_cons,List.map_nil,Hg,G6,He,Hz,Ha,GK,Fh,Fa,G2,Eg,Eh,Fp,Fq,E9] at am
    simp only [List.length_cons,List.length_nil] at bl
    exact go (tg (a:=([2,3,4,6,48,49,50],[2,3,4,7,48,49,50],[2,3,4,7,9,48,49,50],[2,3,4,7,48,49,50,68],([4],()),[2,3,4,48,49,50],[2,3,4,48,49,50],()))) h (Ad am hs) U l j b d (q1 (F6 w0 n)) (q2 b2 (fun e s=>Vl23 ml23 e s (Nat.lt_succ_self _)))
   have C:=hs.1
   refine rg [2,3,4,32,71] hs ?_
   refine BN h hs ?_ ?_<;>intro hs h
   ·have D:=hs.1
    refine rg [2,3,4,10] hs ?_
    refine AA (fun e st=>∃ (g:Int),Ck e st B Rw L [(4,true,.box (B.length+2) 0),(10,true,Ak g)] [a0.cs,a1.cs,AX] [] (DU rec n g=some r)) ?_ ?_
    ·intro K42 b8
     exact go (tg (a:=([2,4,10,79],([4,10],()),[4,10],()))) h hs U l j b d trivial (q1 b8)
    ·clear h;rintro e st ⟨g,Xk41,Rk41,rfl,rfl,d,h⟩
     rw [DU] at h
     refine td U l j b d ?_
     apply An;intro K45 a8
     rcases Bool.eq_false_or_eq_true (decide (g=0)) with hf46 | hf46
     ·replace h:=CP h hf46
      have bw:g=0:=of_decide_eq_true hf46
      obtain ⟨cw,h⟩:=Au h
      have d:=d.make 1 0
      exact go (tg (a:=([4],()))) h (Ad bw (Ad hf46 hs)) U l j b d (q1 (QI w0)) (q1 a8)
     ·replace h:=CO h hf46
      have b0:¬ g=0:=of_decide_eq_false hf46
      exact go (tg (a:=([4],()))) h (Ad b0 (Ad hf46 hs)) U l j b d (q1 (QI w0)) (q1 a8)
   have D:=hs.1
   refine rg [2,3,4,32,86] hs ?_
   refine BN h hs ?_ ?_<;>intro hs h
   ·have z:=hs.1
    exact go (tg (a:=([4],()))) h hs U l j b d (q1 (P6 w0 n)) trivial
   have z:=hs.1
   refine rg [2,3,4,32,91] hs ?_
   refine BN h hs ?_ ?_<;>intro hs h
   ·have w:=hs.1
    obtain ⟨aj,bs,h⟩:=bind_some h
    obtain ⟨cf,ch,be⟩:=B9 bs
    have K:=C5 (f:=Ny) be
    have Q:(a0.elem.map Ny).getD 0 .junk=_:=K
    have hs:=Ad K hs
    have hs:=Ad Q hs
    refine rg [2,3,4,11] hs ?_
    apply Ao
    refine rg [2,3,4,11,116] hs ?_
    refine BN h hs ?_ ?_<;>intro hs h
    ·have aa:=hs.1
     obtain ⟨bx,b7,h⟩:=bind_some h
     have hs:=Ad (Vl.cs_eqs bx) hs
     refine rc 2 [4] hs ?_;intro K63 bb
     refine BF _ (Ko w0 hT n _ _ _ aj a0.min _ b7) (hv hs) ?_;rintro _ _ ⟨c0,Rv67,rfl,rfl,a3⟩
     have d:=d.callV a3
     refine ne hs bb ?_
     clear bb
     refine JQ (B.length+2) 4 (by first | rfl | (simp only [EZ,D3];rfl) | (simp +decide only [go_sem,Nat.reduceAdd,O,C,D,z,w,K,Q,aa,Vl.cs_eqs bx])) (by first | rfl | (simp only [Q4,List.length_set];rfl)) d true (.inl rfl) (by decide) ((CZ (f:=Bv) (sz:=6) (fun _=>by simp +decide only [go_sem]) _)) (Q7 (f:=Bv) 6 (fun _=>rfl) (fun _=>by simp +decide only [go_sem]) _) (fun cc d=>?_)
     simp +decide only [go_sem,Nat.reduceAdd,List.set_cons_zero,List.set_cons_succ]
     exact rt h hs b d
    have aa:=hs.1
    refine rg [2,3,4,11,126] hs ?_
    refine BN h hs ?_ ?_<;>intro hs h
    ·have ae:=hs.1
     obtain ⟨cx,h⟩:=Au h
     obtain ⟨b5,b1,h⟩:=bind_some h
     have hs:=Ad (Vl.cs_eqs b5) hs
     refine rc 2 [4] hs ?_;intro K71 ba
     refine BF _ (Ko w0 hT n _ _ _ aj ((if a0.min<a1.max+1 then a1.max+1 else a0.min)) _ b1) (hv hs) ?_;rintro _ _ ⟨c2,Rv76,rfl,rfl,az⟩
     have d:=d.callV az
     refine ne hs ba ?_
     clear ba
     refine JQ (B.length+2) 4 (by first | rfl | (simp only [EZ,D3];rfl) | (simp +decide only [go_sem,Nat.reduceAdd,O,C,D,z,w,K,Q,aa,ae,Vl.cs_eqs b5])) (by first | rfl | (simp only [Q4,List.length_set];rfl)) d true (.inl rfl) (by decide) ((CZ (f:=Bv) (sz:=6) (fun _=>by simp +decide only [go_sem]) _)) (Q7 (f:=Bv) 6 (fun _=>rfl) (fun _=>by simp +decide only [go_sem]) _) (fun cb d=>?_)
     simp +decide only [go_sem,Nat.reduceAdd,List.set_cons_zero,List.set_cons_succ]
     exact rt h hs b d
    have ae:=hs.1
    obtain ⟨u,bu,h⟩:=bind_some h
    have hs:=Ad (Vl.cs_eqs u) hs
    refine rc 2 [3,4,11,12] hs ?_;intro K78 a7
    refine BF _ (Ko w0 hT n _ _ _ aj ((if a0.min<1 then 1 else a0.min)) _ bu) (hv hs) ?_;rintro _ _ ⟨cj,Rv82,rfl,rfl,ax⟩
    have d:=d.callV ax
    refine ne hs a7 ?_
    clear a7
    refine AA (fun e st=>∃ (o:List Vl) (q:VO) (Xk84:Am) (Rk84:Aq),e=[(4,true,.box (B.length+2) 0),(12,true,.box (B.length+4) 0)]∧st=⟨B++([a0.cs,a1.cs,AX,aj.cs,[Ak u.kind,Ak u.int,Ak u.scale,.val (.string u.text),Ly q o.length,.list (u.fields.map BV) .none]]++Xk84),Rk84,L⟩∧Owns Rw Rk84 [] .none [(q,6,o.flatMap fun x=>(Bv x).cells)]∧Hi rec n u o=some r) ?_ ?_
    ·intro K85 a5
     apply An;intro K86 a9
     have bc:=d.lenV (by decide:0<6) (CZ (f:=Bv) (sz:=6) (fun _=>by simp +decide only [go_sem]) u.list) Tryz.prog 31
     simp +decide only [go_sem] at bc
     have hs:=Ad bc hs
     refine rl [3,4,11,12,105] hs a9 ?_
     clear a9
     refine BN h hs ?_ ?_<;>intro hs h
     ·obtain ⟨ck,cn,cq,au,h⟩:=ix Ny h
      have bi:(a1.elem.map Ny).getD 0 .junk=_:=au
      obtain ⟨ab,b3,h⟩:=bind_some h
      obtain ⟨cz,bv,h⟩:=bind_some h
      obtain ⟨ci,cp,Z⟩:=B9 bv
      obtain ⟨br,bf,hqx91,co,ai⟩:=d.rowV (by rw [(CZ (f:=Bv) (sz:=6) (fun _=>by simp +decide only [go_sem]) _)];exact Nat.mul_pos (by omega) (by decide))
      subst hqx91
      have ag:=QE (f:=Bv) (sz:=6) (fun _=>by simp +decide only [go_sem]) Z
      have af:=Fo (f:=fun x=>(Bv x).cells) 6 (fun _=>by simp +decide only [go_sem]) Z
      have ap:=CZ (f:=Bv) (sz:=6) (fun _=>by simp +decide only [go_sem]) u.list
      simp only [Hg,G6,He,Hz,Ha,GK,Fh,Fa,G2,Eg,Eh,Fp,Fq,E9,Ep] at ag af ai ap
      have av:=Qz (f:=Bv) (sz:=6) (fun _=>by simp +decide only [go_sem]) ab (k:=0) (c:=ab.cs) Z (by simp +decide only [go_sem]) (by simp +decide only [go_sem,Dh,Vl.cs,Ty.cs];first | rfl | simp [Vl.cs_length,Ty.cs_length])
      obtain ⟨a2,d,V⟩:=d.storeV ((u.list.set 0 ab).flatMap fun x=>(Bv x).cells)
      have ak:Dh ((u.list).flatMap fun x=>(Bv x).cells) (0*6) (ab.cs)=(u.list.set 0 ab).flatMap fun x=>(Bv x).cells:=av
      simp only [Hg,G6,He,Hz,Ha,GK,Fh,Fa,G2,Eg,Eh,Fp,Fq,E9,Ep] at av ak V
      have hs:=Ad au hs
      have hs:=Ad bi hs
      have hs:=Ad ag hs
      have hs:=Ad af hs
      have hs:=Ad ai hs
      have hs:=Ad ap hs
      have hs:=Ad av hs
      have hs:=Ad ak hs
      have hs:=Ad V hs
      refine dk 9 2 1 [4,12] hs Oo ?_
      refine As _ (ih _ _ _ aj ck _ b3) (hv hs) ?_
      refine dn hs a5 ?_
      exact ⟨(u.list.set 0 ab),((.row br bf)),([]),a2,ef hs,ef hs,Owns.eqV (d) V5,h⟩
     refine sk [4,12] hs a5 ?_
     exact ⟨u.list,cj,([]),Rv82,ef hs,ef hs,Owns.eqV (d) V5,h⟩
    ·clear h;rintro e st ⟨o,q,Xk84,Rk84,rfl,rfl,d,h⟩
     rw [Hi] at h
     have cr:=d.underV
     simp only [List.mem_cons,List.not_mem_nil,or_false,forall_eq_or_imp,forall_eq] at cr
     refine AY U l j rfl b d ow ow ?_ (vu @ZR)
     refine rg [4] hs ?_
     refine JQ (B.length+2) 4 (by first | rfl | (simp only [EZ,D3];rfl) | (simp +decide only [go_sem,Nat.reduceAdd,O,C,D,z,w,K,Q,aa,ae,Vl.cs_eqs u])) (by first | rfl | (simp only [Q4,List.length_set];rfl)) d true (.inl rfl) (by decide) ((CZ (f:=Bv) (sz:=6) (fun _=>by simp +decide only [go_sem]) _)) (Q7 (f:=Bv) 6 (fun _=>rfl) (fun _=>by simp +decide only [go_sem]) _) (fun ca d=>?_)
     simp +decide only [go_sem,Nat.reduceAdd,List.set_cons_zero,List.set_cons_succ]
     exact rt h hs b d
   have w:=hs.1
   refine rg [2,3,4,32,140] hs ?_
   refine BN h hs ?_ ?_<;>intro hs h
   ·have N:=hs.1
    refine rg [2,4,143,144,145] hs ?_
    apply Ao
    refine AL (fun m e st=>∃ (p:Int),Ck e st B Rw L [(2,true,.box B.length 0),(4,true,.box (B.length+2) 0),(143,true,.list (a1.fields.map ET) .none),(144,true,Ak (a1.fields.length:Int)),(145,true,Ak p)] [a0.cs,a1.cs,AX] [] (Em rec n a0 a1 m p=some r)) n ⟨0,([]),Rk12,ef hs,ef hs,d,h⟩ ?_
    rintro ml101 e st ⟨p,Xl101,Rl101,rfl,rfl,d,h⟩ Ul101 Vl101
    cases ml101 with
    | zero=>cases h
    | succ ml101 =>
    rw [Em] at h
    refine td U l j b d ?_
    refine rg [2,4,143,144,145,146] hs ?_
    apply An;intro K103 ar
    refine BN h hs ?_ ?_<;>intro hs h
    rotate_left
    ·have G:=hs.1
     refine sx [2,4] hs a4 ?_
     exact ⟨([]),Rl101,ef hs,ef hs,d,h⟩
    have G:=hs.1
    refine sk [2,4,143,144,145] hs ar ?_
    clear ar
    apply An;intro K105 bo
    apply Ao
    obtain ⟨y,bp,h⟩:=bind_some h
    obtain ⟨cd,ce,ay⟩:=B9 bp
    have i:=C5 (f:=ET) ay
    have hs:=Ad i hs
    refine rg [2,4,14,143,144,145] hs ?_
    apply An;intro K108 ad
    obtain ⟨cv,bd,h⟩:=bind_some h
    refine rc 2 [2,4,14,143,144,145,151] hs ?_;intro K109 ao
    refine As _ (Qe w0 (AN n) (D6 w0 n) n _ _ _ a0 y _ bd) (hv hs) ?_
    refine ne hs ao ?_
    clear ao
    refine BN h hs ?_ ?_<;>intro hs h
    ·have F:=hs.1
     exact go (tg (a:=([2,4,143,144,145],[2,4,143,144,145],()))) h hs U l j b d trivial (q2 bo (fun e s=>Vl101 ml101 e s (Nat.lt_succ_self _)))
    have F:=hs.1
    refine sk [2,4,14] hs ad ?_
    clear ad
    obtain ⟨v,bm,h⟩:=bind_some h
    refine rc 2 [2,4,14,15,16] hs ?_;intro K113 aq
    refine As _ (EO w0 n _ _ _ a0.fields y.1 _ bm) (hv hs) ?_
    refine ne hs aq ?_
    clear aq
    apply An;intro K115 aw
    apply An;intro K116 Y
    rcases Bool.eq_false_or_eq_true (!v.2) with hf117 | hf117
    ·replace h:=CP h hf117
     exact go (tg (a:=([2,4,14,15,168],[4],()))) h (Ad hf117 hs) U l j b d (q1 (E5 w0 hT n)) (q1 Y)
    ·replace h:=CO h hf117
     obtain ⟨ct,bn,h⟩:=bind_some h
     have hs:=Ad hf117 hs
     refine rk 2 [2,4,14,15,168] hs ?_
     refine As _ (D6 w0 n _ _ _ v.1.2.2.2.1 y.2.2.2.1 _ bn) (hv hs) ?_
     refine ne hs Y ?_
     clear Y
     refine BN h hs ?_ ?_<;>intro hs h
     ·have E:=hs.1
      exact go (tg (a:=([4],()))) h hs U l j b d (q1 (E5 w0 hT n)) trivial
     have E:=hs.1
     refine sk [2,4,14,15] hs aw ?_
     clear aw
     apply An;intro K125 ah
     obtain ⟨b9,bh,h⟩:=bind_some h
     obtain ⟨bq,bk,h⟩:=bind_some h
     obtain ⟨cu,bg,h⟩:=bind_some h
     apply G5 Oo [13,14] [4,17] kr (fun s=>∃ (X:Am) (rows:Aq),s=⟨B++([a0.cs,a1.cs,AX,Ak y.1::(.val (.string y.2.1)::(Ak y.2.2.1::((y.2.2.2.1.cs)++([.list (y.2.2.2.2.map Bv) .none])))),Ak v.1.1::(.val (.string v.1.2.1)::(Ak v.1.2.2.1::((v.1.2.2.2.1.cs)++([.list (v.1.2.2.2.2.map Bv) .none]))))]++X),rows,L⟩) 3 (B.length+5)
     ·simp +decide only [go_sem,Nat.reduceAdd]
     ·rintro s ⟨X,rows,rfl⟩
      refine ⟨4,?_⟩
      rw [Ap];simp +decide only [go_sem,Nat.reduceAdd,EI,O,C,D,z,w,N,G,i,F,hf117,E]
      (repeat' apply Ad)<;>first | refine As _ (E5 w0 hT n _ _ _ a0 _ bh) (hv hs) ?_ | exact cl
      rw [Ap];simp +decide only [go_sem,Nat.reduceAdd,O,C,D,z,w,N,G,i,F,hf117,E]
      (repeat' apply Ad)<;>first | refine As _ (ih _ _ _ v.1.2.2.2.1 y.2.2.2.1 _ bk) (hv hs) ?_ | exact cl
      rw [Ap];simp +decide only [go_sem,Nat.reduceAdd,O,C,D,z,w,N,G,i,F,hf117,E]
      (repeat' apply Ad)<;>first | refine As _ (Zew w0 n _ _ _ b9 v.1.2.1 bq _ bg) (hv hs) ?_ | exact cl
      rw [Ap];simp +decide only [go_sem,Nat.reduceAdd,O,C,D,z,w,N,G,i,F,hf117,E]
      (repeat' apply Ad)<;>first | rfl | exact cl
     ·exact gd (tg (a:=(13,14,[4,17]))) (Ad hf117 (Ad i hs))
     simp +decide only [go_sem,Nat.reduceAdd,O,C,D,z,w,N,G,i,F,hf117,E]
     (repeat' apply Ad)<;>first | refine ah _ _ ?_ | exact cl
     clear ah
     refine rg [4] hs ?_
     exact rt h hs b d
   have N:=hs.1
   refine rg [2,3,4,186] hs ?_
   refine BN h hs ?_ ?_<;>intro hs h
   ·refine rg [2,3,4,189,190,191] hs ?_
    apply Ao
    refine AL (fun m e st=>∃ (t:Int),Ck e st B Rw L [(2,true,.box B.length 0),(3,true,.box (B.length+1) 0),(4,true,.box (B.length+2) 0),(189,true,.list (a0.fields.map ET) .none),(190,true,Ak (a0.fields.length:Int)),(191,true,Ak t)] [a0.cs,a1.cs,AX] [] (En rec n a0 a1 m t=some r)) n ⟨0,([]),Rk12,ef hs,ef hs,d,h⟩ ?_
    rintro ml133 e st ⟨t,Xl133,Rl133,rfl,rfl,d,h⟩ Ul133 Vl133
    cases ml133 with
    | zero=>cases h
    | succ ml133 =>
    rw [En] at h
    exact go (tg (a:=([2,3,4,189,190,191,192],([2,3,4,189,190,191],[2,3,4,20,189,190,191],[2,3,4,20,189,190,191,197],([2,3,4,189,190,191],[2,3,4,189,190,191],()),[3,4,20],[4,20,21,22],[4,20,21,207],([6,4],()),[4,20,21],[8,4],()),[2,4],()))) h hs U l j b d (Ad (P5 w0 (AN n) (D6 w0 n) n) (Ad (EO w0 n) (q3 (E5 w0 hT n) (PR w0 n) ih))) (q2 a4 (fun e s=>Vl133 ml133 e s (Nat.lt_succ_self _)))
   refine sk [2,4] hs a4 ?_
   exact ⟨([]),Rk12,ef hs,ef hs,d,h⟩
 ·clear h;rintro e st ⟨Xk8,Rk8,rfl,rfl,d,h⟩
  rw [EU] at h
  exact go (tg (a:=([4],()))) h hs U l j b d (q1 (E5 w0 hT n)) trivial
theorem NX (w0:World) (hT:Lib.Utf8Tabs 2 3 w0):∀ n:Nat,Kv w0 (CU n)
 | 0=>fun _ _ _ _ _ _ h=>(nomatch h)
 | n+1=>Rt w0 hT (CU n) (NX w0 hT n) n
theorem Zkg (n:Nat) (a b:Ty) (v:Vl) (q1:a.small) (q2:b.small) (g1:a.Good) (g2:b.Fine 8) (hv:v.Nar) (hd:v.depth≤1048576) (hf:Du 12 a v=true) (hn:4000000000≤n):∃ r,AU n a b v=some r∧r.2=(LN 12 a b v).isSome:=by
 obtain ⟨d,f,e,_,⟨c,_⟩,_⟩:=Zb 12 n 1048576 8 a b v q1 q2 g1 g2 hv hd hf (by omega)
 refine ⟨d,e,?_⟩
 cases h:LN 12 a b v with
 | none=>rw [h] at c;exact c
 | some y=>rw [h] at c;have c:d=(y,true):=c;rw [c];rfl
def LJ (a:Ty) (x:Int):Vl:=Vl.mk a.kind x a.scale ⟨#[]⟩ [] []
theorem ZaL {d:Nat} {a:Ty} (o:a.Own) (k:(a.kind=2∨a.kind=3)∨a.kind=6∨a.kind=7) {x:Int} (hx:a.min≤x∧x≤a.max):Du (d+1) a (LJ a x)=true:=by
 have c:On x a=true:=H3.2 hx
 have b:a.kind≠3→a.scale=0:=o.noscale
 have e:AW (LJ a x)=true:=by
  rcases k with (q | q) | q | q
  ·simp [AW,LJ,bare,q,b (by omega),Vl.kind,Vl.int,Vl.scale,Vl.text,Vl.list,Vl.fields,Cj]
  ·simp [AW,LJ,bare,q,Vl.kind,Vl.int,Vl.scale,Vl.text,Vl.list,Vl.fields,Cj]
  ·simp [AW,LJ,bare,q,b (by omega),Vl.kind,Vl.int,Vl.scale,Vl.text,Vl.list,Vl.fields,Cj]
  ·simp [AW,LJ,bare,q,b (by omega),Vl.kind,Vl.int,Vl.scale,Vl.text,Vl.list,Vl.fields,Cj]
 rw [Du,Ai (KZ (by omega) rfl e)]
 rcases k with (q | q) | q
 ·rw [Ah (.inl q)];exact c
 ·rw [Aa,Ah q,Bool.and_eq_true,decide_eq_true_eq];exact ⟨rfl,c⟩
 ·rw [Ah (.inr q)];exact c
def JL (a:Ty):List Int:=[a.min,a.max,if a.max<a.min+1 then a.max else a.min+1]
theorem Zby {a:Ty} (h:a.min≤a.max):∀ x∈JL a,a.min≤x∧x≤a.max:=by
 intro x b
 simp only [JL,List.mem_cons,List.not_mem_nil,or_false] at b
 rcases b with rfl | rfl | rfl
 ·omega
 ·omega
 ·split<;>omega
theorem ZgH:∀ (k:Nat) (x y:Int),dnN (k+1) x=some y→x.tmod 10=0
 | k,x,y,h=>by
  rw [dnN] at h
  by_cases c:x.tmod 10=0
  ·exact c
  ·rw [Ai c] at h;cases h
theorem Zgg {d:Nat} {a b:Ty} (num:(a.kind=2∨a.kind=3)∧(b.kind=2∨b.kind=3)) (h:Fe (d+1) a b=false) (hm:a.min≤a.max):∃ x∈JL a,LN (d+1) a b (LJ a x)=none:=by
 rw [Fe,Ah num,ZeX] at h
 have up:∀ x,LN (d+1) a b (LJ a x)=(Nz x a.scale b.scale).bind fun m=>if On m b=true then some (Vl.mk b.kind m b.scale ⟨#[]⟩ [] []) else none:=fun x=>by rw [LN,Ah num];rfl
 cases h1:Nz a.min a.scale b.scale with
 | none=>exact ⟨a.min,by simp [JL],by rw [up,h1];rfl⟩
 | some p =>
  cases h2:Nz a.max a.scale b.scale with
  | none=>exact ⟨a.max,by simp [JL],by rw [up,h2];rfl⟩
  | some q =>
   rw [h1,h2] at h
   simp only [Bool.and_eq_false_iff,Bool.or_eq_false_iff,decide_eq_false_iff_not] at h
   rcases h with (h | h) | ⟨h,h'⟩
   ·exact ⟨a.min,by simp [JL],by rw [up,h1];simp [h]⟩
   ·exact ⟨a.max,by simp [JL],by rw [up,h2];simp [h]⟩
   ·refine ⟨a.min+1,by simp only [JL];rw [Ai (show ¬ a.max<a.min+1 by omega)];simp,?_⟩
    rw [up]
    cases h3:Nz (a.min+1) a.scale b.scale with
    | none=>rfl
    | some r =>
     rw [Nz,Ai h] at h1 h3
     obtain ⟨k,hk⟩:∃ k,(a.scale-b.scale).toNat=k+1:=⟨(a.scale-b.scale).toNat-1,by omega⟩
     rw [hk] at h1 h3
     have c:=Int.dvd_of_tmod_eq_zero (ZgH _ _ _ h1)
     have e:=Int.dvd_of_tmod_eq_zero (ZgH _ _ _ h3)
     omega
theorem Zgu {d:Nat} {a b:Ty} (e:a.kind=b.kind) (k:b.kind=6∨b.kind=7) (h:Fe (d+1) a b=false):∃ x∈JL a,LN (d+1) a b (LJ a x)=none:=by
 rw [Fe,Aa,Aa,Aa,Aa,Aa,Aa,Aa,Ye,Bool.and_eq_false_iff,decide_eq_false_iff_not,decide_eq_false_iff_not] at h
 have up:∀ x,LN (d+1) a b (LJ a x)=if On x b=true then some (LJ a x) else none:=fun x=>by rw [LN,Aa,Aa,Ah k];rfl
 rcases h with h | h
 ·exact ⟨a.min,by simp [JL],by rw [up,Ai];rw [H3];omega⟩
 ·exact ⟨a.max,by simp [JL],by rw [up,Ai];rw [H3];omega⟩
theorem Zdr (rec:Ty→Ty→Option Vl) (n:Nat) (a b:Ty) (f:Int→Bool) (hf:∀ x∈JL a,∃ r,AU n a b (LJ a x)=some r∧r.2=f x) (hx:∃ x∈JL a,f x=false):∀ (k m i:Nat),i+k=3→k<m→(∃ j,i≤j∧∃ h:j<3,f (JL a)[j]=false) →
  ∃ x∈JL a,f x=false∧EE rec n a b m i=some (LJ a x)
 | k,0,i,_,h,_=>absurd h (Nat.not_lt_zero _)
 | 0,m+1,i,hi,_,⟨j,h1,h2,_⟩=>by omega
 | k+1,m+1,i,hi,hm,⟨j,h1,h2,h3⟩=>by
  have d:i<(JL a).length:=by show i<3;omega
  obtain ⟨r,e,l⟩:=hf _ (List.getElem_mem d)
  have g:B1 ([a.min,a.max,if a.max<a.min+1 then a.max else a.min+1]) (i:Int)=some (JL a)[i]:=AM d
  have e:AU n a b (Vl.mk a.kind (JL a)[i] a.scale ⟨#[]⟩ [] [])=some r:=e
  rw [EE,Ag (show (i:Int)<3 by omega),Ah rfl,g,Ae,e,Ae,l]
  cases c:f (JL a)[i] with
  | false =>
   rw [Ah (by rfl)]
   exact ⟨_,List.getElem_mem d,c,rfl⟩
  | true =>
   rw [Ai (by decide),Ah (AK (by omega))]
   refine Zdr rec n a b f hf hx k m (i+1) (by omega) (by omega) ⟨j,?_,h2,h3⟩
   rcases Nat.lt_or_ge i j with z | z
   ·omega
   ·obtain rfl:i=j:=by omega
    exact absurd (c.symm.trans h3) (by decide)
def Gk (rec:Ty→Option Int) (n:Nat)  (b:Int):Option Int :=
 some ((if 4097<b then 4097 else b))
def H9 (rec:Ty→Option Int) (n:Nat) (y:Ty):Nat→Int→Int→Option Int
 | 0,_,_=>none
 | m+1,g,b =>
  if decide (b<(y.fields.length:Int)) then
   (B1 y.fields b).bind fun q =>
   (rec q.2.2.2.1).bind fun h =>
   if BM (g+h) then
    if BM (b+1) then
     (H9 rec n y m) (g+h) (b+1)
    else none
   else none
  else
   Gk rec n g
def Ig (rec:Ty→Option Int) (n:Nat) (y:Ty):Nat→Int→Int→Option Int
 | 0,_,_=>none
 | m+1,g,b =>
  if decide (b<(y.fields.length:Int)) then
   (B1 y.fields b).bind fun q =>
   (rec q.2.2.2.1).bind fun h =>
   if BM (1+h) then
    if BM (b+1) then
     (Ig rec n y m) ((if g<1+h then 1+h else g)) (b+1)
    else none
   else none
  else
   Gk rec n g
def QV (rec:Ty→Option Int) (n:Nat) (b:Ty):Option Int :=
 if decide (b.kind=8) then
  (B1 b.elem 0).bind fun h =>
  (rec h).bind fun g =>
  if BM (b.max*g) then
   if BM (1+(b.max*g)) then
    Gk rec n (1+(b.max*g))
   else none
  else none
 else
  if decide (b.kind=9) then
   H9 rec n b n 1 0
  else
   if decide (b.kind=10) then
    Ig rec n b n 1 0
   else
    Gk rec n 1
def I3:Nat→Ty→Option Int
 | 0,_=>none
 | n+1,b=>QV (I3 n) n b
def UF (w0:World) (F:Ty→Option Int):Prop:=∀ (B:Am) (Rw:Aq) (L:Ar) (b:Ty) (r:Int),F b=some r→ACalls Tryz.prog w0 14 [.agg (b.cs)] ⟨B,Rw,L⟩ fun x st=>x=Ak r∧st=⟨B,Rw,L⟩
theorem ZS (w0:World) (rec:Ty→Option Int) (ih:UF w0 rec) (n:Nat):UF w0 (QV rec n):=by
 intro B Rw L a0 r h
 rw [QV] at h
 refine hd [.tmp 2] Tryz.func14 Tryz.ntmps14 fun M0 W0 p o l b q j hs=>?_
 simp only [AG]
 refine rg [1] hs ?_
 refine rg [1,3] hs ?_
 refine AA (fun e st=>∃ (i:Int),Ck e st B Rw L [(3,true,Ak i)] [a0.cs] [] (Gk rec n i=some r)) ?_ ?_
 ·intro K5 k
  refine rg [1,3,7] hs ?_
  apply Ao
  refine rg [1,3,7,8] hs ?_
  refine BN h hs ?_ ?_<;>intro hs h
  ·exact go (tg (a:=([10,3],()))) h hs p o l b j (q1 ih) (q1 k)
  refine rg [1,3,7,19] hs ?_
  refine BN h hs ?_ ?_<;>intro hs h
  ·refine rg [1,3,4] hs ?_
   apply Ao
   refine AL (fun m e st=>∃ (f:Int) (d:Int),Ck e st B Rw L [(1,true,.box B.length 0),(3,true,Ak f),(4,true,Ak d)] [a0.cs] [] (H9 rec n a0 m f d=some r)) n ⟨1,0,([]),Rw,ef hs,ef hs,j,h⟩ ?_
   rintro ml16 e st ⟨f,d,Xl16,Rl16,rfl,rfl,j,h⟩ Ul16 Vl16
   cases ml16 with
   | zero=>cases h
   | succ ml16 =>
   rw [H9] at h
   exact go (tg (a:=([1,3,4,25],([1,3,4],[1,3,4],[1,3,4],()),[3],()))) h hs p o l b j (q1 ih) (q2 k (fun e s=>Vl16 ml16 e s (Nat.lt_succ_self _)))
  refine rg [1,3,37] hs ?_
  refine BN h hs ?_ ?_<;>intro hs h
  ·refine rg [1,3,5] hs ?_
   apply Ao
   refine AL (fun m e st=>∃ (g:Int) (c:Int),Ck e st B Rw L [(1,true,.box B.length 0),(3,true,Ak g),(5,true,Ak c)] [a0.cs] [] (Ig rec n a0 m g c=some r)) n ⟨1,0,([]),Rw,ef hs,ef hs,j,h⟩ ?_
   rintro ml28 e st ⟨g,c,Xl28,Rl28,rfl,rfl,j,h⟩ Ul28 Vl28
   cases ml28 with
   | zero=>cases h
   | succ ml28 =>
   rw [Ig] at h
   exact go (tg (a:=([1,3,5,43],([1,3,5],[1,3,5],[1,3,5],()),[3],()))) h hs p o l b j (q1 ih) (q2 k (fun e s=>Vl28 ml28 e s (Nat.lt_succ_self _)))
  refine sk [3] hs k ?_
  exact ⟨1,([]),Rw,ef hs,ef hs,j,h⟩
 ·clear h;rintro e st ⟨i,Xk4,Rk4,rfl,rfl,j,h⟩
  rw [Gk] at h
  refine td p o l b j ?_
  refine rg [2] hs ?_
  exact rt h hs b j
theorem WI (w0:World):∀ n:Nat,UF w0 (I3 n)
 | 0=>fun _ _ _ _ _ h=>(nomatch h)
 | n+1=>ZS w0 (I3 n) (WI w0 n) n
def A8:Nat→Ty→Int
 | 0,_=>1
 | d+1,t=>UZ (if t.kind=8 then (match t.elem with | x::_=>1+t.max*A8 d x | []=>1)
   else if t.kind=9 then 1+(t.fields.map fun p=>A8 d p.2.2.2.1).sum
   else if t.kind=10 then t.fields.foldl (fun a p=>V3 a (1+A8 d p.2.2.2.1)) 1 else 1)
theorem Le (c:Int):UZ c≤4097∧(UZ c≤4096→UZ c=c)∧(1≤c→1≤UZ c):=by unfold UZ;split<;>omega
theorem Zbc (g:TF→Int):∀ (l:List TF) (a:Int),1≤a→1≤l.foldl (fun a p=>V3 a (g p)) a
 | [],a,h=>h
 | p::r,a,h=>Zbc g r _ (by show 1≤V3 a (g p);unfold V3;split<;>omega)
theorem Zb9 {α:Type} (g:α→Int):∀ l:List α,(∀ x∈l,0≤g x)→0≤(l.map g).sum
 | [],_=>by simp
 | x::r,h=>by
  have:=Zb9 g r fun y a=>h y (List.mem_cons_of_mem _ a)
  have:=h x (List.mem_cons_self ..)
  simp only [List.map_cons,List.sum_cons];omega
theorem Jc:∀ (d:Nat) (t:Ty),t.Good→1≤A8 d t
 | 0,_,_=>Int.le_refl 1
 | d+1,t,gt=>by
  have own:=gt.own
  rw [A8]
  refine (Le _).2.2 ?_
  by_cases k8:t.kind=8
  ·rw [Ah k8]
   cases he:t.elem with
   | nil=>exact Int.le_refl 1
   | cons x r =>
    have e:=Jc d x (Ea gt (by rw [he];simp))
    have b:=own.bounds (by omega) (by omega)
    have a:AH t.kind=(0,256):=by rw [k8];rfl
    rw [a] at b
    have:0≤t.max*A8 d x:=Int.mul_nonneg (Int.le_trans b.1 b.2.2) (by omega)
    show 1≤1+t.max*A8 d x
    omega
  rw [Ai k8]
  by_cases k9:t.kind=9
  ·rw [Ah k9]
   have:0≤(t.fields.map fun p=>A8 d p.2.2.2.1).sum:=Zb9 _ _ fun p c=>by have:=Jc d p.2.2.2.1 (A9 gt c);omega
   omega
  rw [Ai k9]
  by_cases k10:t.kind=10
  ·rw [Ah k10];exact Zbc (fun p=>1+A8 d p.2.2.2.1) t.fields 1 (Int.le_refl 1)
  ·rw [Ai k10];exact Int.le_refl 1
theorem Zbq (rec:Ty→Option Int) (n d:Nat) (t:Ty) (hl:t.fields.length≤1000000) (hr:∀ p∈t.fields,rec p.2.2.2.1=some (A8 d p.2.2.2.1)∧1≤A8 d p.2.2.2.1∧A8 d p.2.2.2.1≤4097):∀ (k m i:Nat) (a:Int),i+k=t.fields.length→k<m→0≤a→a≤5000*i+5000 →
  H9 rec n t m a i=some (UZ (a+((t.fields.drop i).map fun p=>A8 d p.2.2.2.1).sum))
 | k,0,i,a,_,h,_,_=>absurd h (Nat.not_lt_zero _)
 | 0,m+1,i,a,hi,_,_,_=>by
  rw [H9,AC,Ac,Ai (by decide),List.drop_eq_nil_of_le (by omega),Gk]
  simp [UZ]
 | k+1,m+1,i,a,hi,hm,h0,h1=>by
  have b:i<t.fields.length:=by omega
  obtain ⟨e,f,c⟩:=hr _ (List.getElem_mem b)
  rw [H9,AC,Ag b,Ah rfl,AM b,Ae,e,Ae,Ah (by unfold BM;omega),Ah (AK (by omega)),List.drop_eq_getElem_cons b,List.map_cons,List.sum_cons,←Int.add_assoc]
  exact Zbq rec n d t hl hr k m (i+1) _ (by omega) (by omega) (by omega) (by omega)
theorem ZaO (rec:Ty→Option Int) (n d:Nat) (t:Ty) (hl:t.fields.length≤1000000) (hr:∀ p∈t.fields,rec p.2.2.2.1=some (A8 d p.2.2.2.1)∧1≤A8 d p.2.2.2.1∧A8 d p.2.2.2.1≤4097):∀ (k m i:Nat) (a:Int),i+k=t.fields.length→k<m →
  Ig rec n t m a i=some (UZ ((t.fields.drop i).foldl (fun a p=>V3 a (1+A8 d p.2.2.2.1)) a))
 | k,0,i,a,_,h=>absurd h (Nat.not_lt_zero _)
 | 0,m+1,i,a,hi,_=>by
  rw [Ig,AC,Ac,Ai (by decide),List.drop_eq_nil_of_le (by omega),Gk]
  rfl
 | k+1,m+1,i,a,hi,hm=>by
  have b:i<t.fields.length:=by omega
  obtain ⟨e,f,c⟩:=hr _ (List.getElem_mem b)
  rw [Ig,AC,Ag b,Ah rfl,AM b,Ae,e,Ae,Ah (by unfold BM;omega),Ah (AK (by omega)),List.drop_eq_getElem_cons b,List.foldl_cons]
  exact ZaO rec n d t hl hr k m (i+1) _ (by omega) (by omega)
theorem Zaf:∀ (d n:Nat) (t:Ty),t.size+10≤n→t.small→t.Good→t.depth≤d→I3 n t=some (A8 d t)
 | 0,n,t,_,_,_,h=>by have:=t.depth_eq;omega
 | d+1,0,t,h,_,_,_=>by omega
 | d+1,n+1,t,h,ht,gt,hd=>by
  have m:=t.lens
  have i:=ht.1
  have own:=gt.own
  have c:∀ p∈t.fields,I3 n p.2.2.2.1=some (A8 d p.2.2.2.1)∧1≤A8 d p.2.2.2.1∧A8 d p.2.2.2.1≤4097:=fun p f=>by
   have a1:=t.field_size _ f
   refine ⟨Zaf d n p.2.2.2.1 (by omega) (Ty.small_field ht f) (A9 gt f) (by have:=Ty.depth_field f;omega),Jc d _ (A9 gt f),?_⟩
   cases d with
   | zero=>exact (by decide:(1:Int)≤4097)
   | succ d=>rw [A8];exact (Le _).1
  rw [I3,QV,A8]
  by_cases k8:t.kind=8
  ·obtain ⟨j,s,l⟩:=(KV (OZ gt)).2.2.1 k8
   obtain ⟨x,he⟩:∃ x,t.elem=[x]:=List.length_eq_one_iff.1 j
   have a:x∈t.elem:=by rw [he];simp
   have a1:=t.elem_size _ a
   have e:=Zaf d n x (by omega) (Ty.small_elem ht a) (Ea gt a) (by have:=Ty.depth_elem a;omega)
   have o:=Jc d x (Ea gt a)
   have q:A8 d x≤4097:=by
    cases d with
    | zero=>exact (by decide:(1:Int)≤4097)
    | succ d=>rw [A8];exact (Le _).1
   have b:=own.bounds (by omega) (by omega)
   have g:AH t.kind=(0,256):=by rw [k8];rfl
   rw [g] at b
   have k:0≤t.max:=Int.le_trans b.1 b.2.2
   have r:t.max≤256:=b.2.1
   have q1:0≤t.max*A8 d x:=Int.mul_nonneg k (by omega)
   have q2:0≤(256-t.max)*A8 d x:=Int.mul_nonneg (by omega) (by omega)
   rw [Int.sub_mul] at q2
   rw [Ag k8,Ah rfl,Ah k8,he,show B1 [x] 0=some x from rfl,Ae,e,Ae,Ah (by unfold BM;omega),Ah (by unfold BM;omega),Gk]
   rfl
  rw [Af k8,Ai (by decide),Ai k8]
  by_cases k9:t.kind=9
  ·rw [Ag k9,Ah rfl,Ah k9]
   have:=Zbq (I3 n) n d t (by omega) c t.fields.length n 0 1 (by omega) (by omega) (by omega) (by omega)
   rw [List.drop_zero] at this
   exact this
  rw [Af k9,Ai (by decide),Ai k9]
  by_cases k10:t.kind=10
  ·rw [Ag k10,Ah rfl,Ah k10]
   have:=ZaO (I3 n) n d t (by omega) c t.fields.length n 0 1 (by omega) (by omega)
   rw [List.drop_zero] at this
   exact this
  ·rw [Af k10,Ai (by decide),Ai k10,Gk];rfl
theorem YO (k:Int):∀ l:List Vl,(∀ x∈l,(x.size:Int)≤k)→(CJ l:Int)≤l.length*k
 | [],_=>by simp [CJ]
 | x::r,h=>by
  have b:=YO k r fun y a=>h y (List.mem_cons_of_mem _ a)
  have c:=h x (List.mem_cons_self ..)
  have e:(((x::r).length:Nat):Int)*k=r.length*k+k:=by rw [List.length_cons,Int.natCast_succ,Int.add_mul,Int.one_mul]
  rw [e,CJ];omega
theorem YQ (g:TF→Int):∀ l:List TF,(∀ p∈l,0≤g p)→(((l.map fun p=>(g p).toNat).sum:Nat):Int)=(l.map g).sum
 | [],_=>rfl
 | p::r,h=>by
  have b:=YQ g r fun y a=>h y (List.mem_cons_of_mem _ a)
  have c:=h p (List.mem_cons_self ..)
  simp only [List.map_cons,List.sum_cons];omega
theorem SD (g:TF→Int):∀ (l:List TF),(∀ p∈l,0≤g p)→∀ p∈l,g p≤(l.map g).sum
 | [],_,p,hp=>by simp at hp
 | q::r,h,p,hp=>by
  have b:=Zb9 g r fun y a=>h y (List.mem_cons_of_mem _ a)
  have c:=h q (List.mem_cons_self ..)
  simp only [List.map_cons,List.sum_cons]
  rcases List.mem_cons.1 hp with rfl | hp
  ·omega
  ·have:=SD g r (fun y a=>h y (List.mem_cons_of_mem _ a)) p hp
   omega
theorem Vi (g:TF→Int):∀ (l:List TF) (a:Int),a≤l.foldl (fun a p=>V3 a (g p)) a∧∀ p∈l,g p≤l.foldl (fun a p=>V3 a (g p)) a:=fun l a=>QQ g l a
theorem Zf1 {l:List (ByteArray × Vl)} (h:SS l):(l.map Prod.fst).Nodup:=by
 rw [List.Nodup,List.pairwise_map]
 exact h.imp fun {a b} q e=>by rw [e,JB] at q;exact absurd q (by decide)
def ofF (t:Ty) (l:List (ByteArray × Vl)):List TF:=l.filterMap fun q=>A7 t q.1
theorem UA {t:Ty}:∀ {l:List (ByteArray × Vl)},(∀ q∈l,(A7 t q.1).isSome=true)→(ofF t l).map (fun p=>p.2.1)=l.map Prod.fst
 | [],_=>rfl
 | q::r,h=>by
  obtain ⟨p,a⟩:=Option.isSome_iff_exists.1 (h q (List.mem_cons_self ..))
  have ih:=UA (t:=t) (l:=r) fun y b=>h y (List.mem_cons_of_mem _ b)
  rw [ofF,List.filterMap_cons,a]
  simp only [List.map_cons]
  rw [(BC a).2]
  exact congrArg _ ih
theorem Y7 {t:Ty} {l:List (ByteArray × Vl)} (hs:SS l) (h:∀ q∈l,(A7 t q.1).isSome=true):(ofF t l).Nodup:=by
 have:=Zf1 hs
 rw [←UA h] at this
 exact List.Pairwise.of_map (fun p:TF=>p.2.1) (fun a b h e=>h (by rw [e])) this
theorem ZdO {t:Ty} {l:List (ByteArray × Vl)}:∀ p∈ofF t l,p∈t.fields:=fun p a=>by
 obtain ⟨q,_,h⟩:=List.mem_filterMap.1 a
 exact (BC h).1
theorem ZbS {t:Ty} (g:TF→Nat):∀ {l:List (ByteArray × Vl)},(∀ q∈l,∃ p,A7 t q.1=some p∧q.2.size≤g p)→Bi l≤((ofF t l).map g).sum
 | [],_=>by simp [Bi]
 | q::r,h=>by
  obtain ⟨p,b,hs⟩:=h q (List.mem_cons_self ..)
  have ih:=ZbS g (l:=r) fun y a=>h y (List.mem_cons_of_mem _ a)
  rw [ofF,List.filterMap_cons,b]
  simp only [List.map_cons,List.sum_cons,Bi]
  have ih:Bi r≤((r.filterMap fun q=>A7 t q.1).map g).sum:=ih
  omega
theorem QR:∀ (d:Nat) (t:Ty) (v:Vl),t.Good→v.Good→FB d t v=true→A8 d t≤4096→(v.size:Int)≤A8 d t
 | 0,t,v,_,_,h,_=>by simp [FB] at h
 | d+1,t,v,gt,gv,h,hm=>by
  obtain ⟨N,w⟩:=KY (GR gv)
  have s:v.kind≠8→v.kind≠10→v.list=[]:=fun q C=>by
   rcases Nat.eq_zero_or_pos v.list.length with e | e
   ·exact List.length_eq_zero_iff.1 e
   ·exfalso;apply w;rw [AO];simp [q,C];omega
  have o:v.kind≠9→v.fields=[]:=fun q=>by
   rcases Nat.eq_zero_or_pos v.fields.length with e | e
   ·exact List.length_eq_zero_iff.1 e
   ·exfalso;apply w;rw [AO];simp [q];omega
  have c:=v.size_eq
  have F:=Jc (d+1) t gt
  rw [FB] at h
  by_cases hk:t.kind≠v.kind
  ·rw [Ah hk] at h;exact absurd h (by decide)
  rw [Ai hk] at h
  by_cases k8:v.kind=8
  ·rw [Aa,Aa,Aa,Aa,Ab,Bool.and_eq_true] at h
   have i:=o (by omega)
   obtain ⟨e,u⟩:=gt.own.elem (by omega)
   have g:e∈t.elem:=by rw [u];simp
   have H:=Jc d e (Ea gt g)
   have K:(v.list.length:Int)≤t.max:=by
    have:=h.2
    rw [RS,Bool.and_eq_true,decide_eq_true_eq,decide_eq_true_eq] at this
    exact this.2
   have k:A8 (d+1) t=1+t.max*A8 d e:=by
    have q:=hm
    rw [A8,Ab,u] at q ⊢
    exact (Le _).2.1 q
   rw [i] at c
   simp only [Bi] at c
   rw [k] at hm ⊢
   rcases Nat.eq_zero_or_pos v.list.length with z | z
   ·have:v.list=[]:=List.length_eq_zero_iff.1 z
    rw [this] at c
    simp only [CJ] at c
    have:0≤t.max*A8 d e:=Int.mul_nonneg (by omega) (by omega)
    omega
   ·have D:0≤(t.max-1)*A8 d e:=Int.mul_nonneg (by omega) (by omega)
    rw [Int.sub_mul,Int.one_mul] at D
    have r:=YO (A8 d e) v.list fun x j=>by
     have:=List.all_eq_true.1 h.1 x j
     exact QR d e x (Ea gt g) (E4 gv (by rw [Bn,Ah (.inl k8)];exact j)) (List.all_eq_true.1 this e g) (by omega)
    have q1:0≤(t.max-v.list.length)*A8 d e:=Int.mul_nonneg (by omega) (by omega)
    rw [Int.sub_mul] at q1
    omega
  by_cases k10:v.kind=10
  ·rw [Aa,Aa,Aa,Aa,Aa,Ab] at h
   have i:=o (by omega)
   obtain ⟨x,j⟩:=UV gv k10
   have k:A8 (d+1) t=t.fields.foldl (fun a p=>V3 a (1+A8 d p.2.2.2.1)) 1:=by
    have q:=hm
    rw [A8,Aa,Aa,Ab] at q ⊢
    exact (Le _).2.1 q
   cases hp:A7 t v.text with
   | none=>rw [hp] at h;exact absurd h (by simp)
   | some p =>
    rw [hp] at h
    have b:=(BC hp).1
    have q:1+A8 d p.2.2.2.1≤t.fields.foldl (fun a p=>V3 a (1+A8 d p.2.2.2.1)) 1:=(Vi (fun p=>1+A8 d p.2.2.2.1) t.fields 1).2 p b
    rw [k] at hm ⊢
    have r:=QR d _ x (A9 gt b) (E4 gv (by rw [Bn,Ah (.inr k10),j];simp)) (List.all_eq_true.1 h x (by rw [j];simp)) (by omega)
    rw [i,j] at c
    simp only [Bi,CJ] at c
    omega
  by_cases k9:v.kind=9
  ·rw [Aa,Aa,Aa,Aa,Aa,Aa,Ab,Bool.and_eq_true] at h
   have n:=s k8 k10
   have k:A8 (d+1) t=1+(t.fields.map fun p=>A8 d p.2.2.2.1).sum:=by
    have q:=hm
    rw [A8,Aa,Ab] at q ⊢
    exact (Le _).2.1 q
   rw [k] at hm ⊢
   have y:∀ p∈t.fields,0≤A8 d p.2.2.2.1:=fun p hp=>by have:=Jc d p.2.2.2.1 (A9 gt hp);omega
   have f:∀ q∈v.fields,∃ p,A7 t q.1=some p∧q.2.size≤(A8 d p.2.2.2.1).toNat:=fun q l=>by
    have m:=List.all_eq_true.1 h.1 q l
    cases hp:A7 t q.1 with
    | none=>rw [hp] at m;exact absurd m (by simp)
    | some p =>
     rw [hp] at m
     have b:=(BC hp).1
     have:A8 d p.2.2.2.1≤(t.fields.map fun p=>A8 d p.2.2.2.1).sum:=SD (fun p=>A8 d p.2.2.2.1) t.fields y p b
     have:=QR d _ q.2 (A9 gt b) (Vz gv l) m (by omega)
     exact ⟨p,rfl,by omega⟩
   have E:=Ky (RX (GR gv)) k9
   have r:=ZbS (t:=t) (fun p=>(A8 d p.2.2.2.1).toNat) f
   have G:((ofF t v.fields).map fun p=>(A8 d p.2.2.2.1).toNat).sum≤(t.fields.map fun p=>(A8 d p.2.2.2.1).toNat).sum:=To (fun p:TF=>(A8 d p.2.2.2.1).toNat) (ofF t v.fields) t.fields (Y7 E fun q l=>by obtain ⟨p,hp,_⟩:=f q l;rw [hp];rfl) ZdO
   have J:(((t.fields.map fun p=>(A8 d p.2.2.2.1).toNat).sum:Nat):Int)=(t.fields.map fun p=>A8 d p.2.2.2.1).sum:=YQ (fun p=>A8 d p.2.2.2.1) t.fields y
   rw [n] at c
   simp only [CJ] at c
   omega
  ·rw [s k8 k10,o k9] at c
   simp only [CJ,Bi] at c
   omega
def W6 (a:Ty):Int:=if a.min<1 then 1 else a.min
def LW (a:Ty) (c:Nat):ByteArray:=aS (W6 a-1).toNat++⟨#[c.toUInt8]⟩
def XE (a:Ty):List ByteArray:=if a.words≠[] then a.words else [aS a.min.toNat,aS a.max.toNat]++(if W6 a≤a.max then (List.range' 32 95).map (LW a) else [])
theorem Ue (k:Nat):(aS k).size=k:=by show (List.replicate k (97:UInt8)).toArray.size=_;simp
theorem Zi5 (i:Nat) (hi:i<128):Utf8.encode (i:Int)=⟨#[i.toUInt8]⟩:=by
 have v:Utf8.valid (i:Int)=true:=by
  unfold Utf8.valid
  rw [Bool.or_eq_true,Bool.and_eq_true,decide_eq_true_eq,decide_eq_true_eq]
  exact .inl ⟨by omega,by omega⟩
 unfold Utf8.encode
 simp only [v,if_true,Int.toNat_natCast]
 rw [Ab]
theorem Zca (a:Ty) (c:Nat) (h:1≤W6 a):(LW a c).size=(W6 a).toNat:=by
 rw [LW,ByteArray.size_append,Ue]
 show _+1=_
 omega
theorem Ze0 (a:Ty) {c d:Nat} (hc:c<128) (hd:d<128) (h:LW a c=LW a d):c=d:=by
 unfold LW at h
 have h:=congrArg (fun x:ByteArray=>x.data.toList) h
 simp only [ByteArray.data_append,Array.toList_append] at h
 have h:=List.append_cancel_left h
 have h:[c.toUInt8]=[d.toUInt8]:=h
 have h:=congrArg UInt8.toNat (List.cons.inj h).1
 simp only [Nat.toUInt8,UInt8.toNat_ofNat'] at h
 omega
theorem ZfZ (n:Nat) (a b:Ty) (ha:a.kind=4) (hb:b.kind=4) (hl:b.words.length≤1000000000) (hn:b.words.length+1<n) (c:List ByteArray) (hc:c.length≤1000000000) (hcn:c.length<n) (hx:∃ w∈c,Es w b=false) :
  ∃ w∈c,Es w b=false∧BD n a b (c.map A4)=some (A4 w):=by
 have o:(c.map A4).length=c.length:=List.length_map ..
 have d:∀ (k m i:Nat),i+k=c.length→k<m→(∃ j,i≤j∧∃ h:j<c.length,Es c[j] b=false) →
   ∃ w∈c,Es w b=false∧Dc n a b (c.map A4) m i=some (A4 w):=by
  intro k
  induction k with
  | zero=>intro m i v t ⟨j,u,l,_⟩;omega
  | succ k ih =>
   intro m i v t ⟨j,u,l,h3⟩
   obtain ⟨m,rfl⟩:∃ q,m=q+1:=⟨m-1,by omega⟩
   have g:i<c.length:=by omega
   have r:B1 (c.map A4) (i:Int)=some (A4 c[i]):=by rw [AM (by omega),List.getElem_map]
   rw [Dc,Ag (show (i:Int)<((c.map A4).length:Int) by omega),Ah rfl,r,Ae,ZdN n a b c[i] ha hb hl hn,Ae]
   cases q:Es c[i] b with
   | false =>
    rw [Ah (by rfl)]
    exact ⟨_,List.getElem_mem g,q,rfl⟩
   | true =>
    rw [Ai (show ¬ ((!true)=true) by decide),Ah (AK (by omega))]
    refine ih m (i+1) (by omega) (by omega) ⟨j,?_,l,h3⟩
    rcases Nat.lt_or_ge i j with z | z
    ·omega
    ·obtain rfl:i=j:=by omega
     rw [q] at h3;cases h3
 obtain ⟨w,s,f⟩:=hx
 obtain ⟨j,p,e⟩:=List.mem_iff_getElem.1 s
 rw [BD]
 exact d c.length n 0 (by omega) hcn ⟨j,Nat.zero_le _,p,by rw [e];exact f⟩
theorem Zf9 (n:Nat) (a b:Ty) (h1:1≤W6 a) (h2:W6 a≤1024) (C:W6 a≤a.max):∀ (k m i:Nat) (c:List ByteArray),i+k=127→32≤i→k<m→c.length+k≤1000 →
  Br n a b m (c.map A4) i=BD n a b ((c++(List.range' i k).map (LW a)).map A4)
 | k,0,i,c,_,_,h,_=>absurd h (Nat.not_lt_zero _)
 | 0,m+1,i,c,hi,_,_,_=>by
  rw [Br,Af (show ¬ (i:Int)≤126 by omega),Bool.false_and,Ai (by decide)]
  simp
 | k+1,m+1,i,c,hi,h0,hm,hc=>by
  have e:=Zi5 i (by omega)
  have d:(c.map A4).length=c.length:=List.length_map ..
  have f:(⟨#[97]⟩:ByteArray).size=1:=rfl
  have g:(⟨(Lib.repeatL ((⟨#[97]⟩:ByteArray)).data.toList (W6 a-1).toNat).toArray⟩:ByteArray)=aS (W6 a-1).toNat:=by
   rw [show (⟨#[97]⟩:ByteArray).data.toList=[97] from rfl,Lp];rfl
  rw [Br,Ag (show (i:Int)≤126 by omega),Bool.true_and]
  simp only [show (if a.min<1 then 1 else a.min)=W6 a from rfl,g,e]
  rw [Ah (Ag C),Ah (by unfold BM;omega),Ah ⟨by omega,by omega,by rw [f];omega⟩,Ab,Ah (by rw [Ue,show (⟨#[i.toUInt8]⟩:ByteArray).size=1 from rfl];omega),Ah (by rw [d];omega),Ah (AK (by omega))]
  have ih:=Zf9 n a b h1 h2 C k m (i+1) (c++[LW a i]) (by omega) (by omega) (by omega) (by simp;omega)
  rw [List.map_append] at ih
  rw [List.range'_succ,List.map_cons,show c++LW a i::(List.range' (i+1) k).map (LW a)=(c++[LW a i])++(List.range' (i+1) k).map (LW a) by simp]
  exact ih
theorem ZeZ (n:Nat) (a b:Ty) (C:¬ W6 a≤a.max) (m:Nat) (i:Int) (c:List Vl):Br n a b (m+1) c i=BD n a b c:=by
 rw [Br]
 simp only [show (if a.min<1 then 1 else a.min)=W6 a from rfl]
 rw [Af C,Bool.and_false,Ai (by decide)]
theorem ZjA (n:Nat) (a b:Ty) (hw:a.words.length≤64):∀ (k m i:Nat),i+k=a.words.length→k<m →
  CW n a b m ((a.words.take i).map A4) i=EA n a b (a.words.map A4)
 | k,0,i,_,h=>absurd h (Nat.not_lt_zero _)
 | 0,m+1,i,hi,_=>by
  rw [CW,Ac,Ai (by decide),List.take_of_length_le (by omega)]
 | k+1,m+1,i,hi,hm=>by
  have c:i<a.words.length:=by omega
  have d:((a.words.take i).map A4).length=i:=by rw [List.length_map,List.length_take];omega
  rw [CW,Ag (show (i:Int)<(a.words.length:Int) by omega),Ah rfl,AM c,Ae,d,Ab,Ah (AK (by omega)),←ZjA n a b hw k m (i+1) (by omega) (by omega),List.take_succ_eq_append_getElem c,List.map_append]
  rfl
theorem Zdu (n:Nat) (k:Int) (h0:0≤k) (h1:k≤1024):HO k=some (A4 (aS k.toNat)):=by
 have a:(⟨#[97]⟩:ByteArray).size=1:=rfl
 rw [HO,Ah ⟨h0,by omega,by rw [a];omega⟩,show (⟨#[97]⟩:ByteArray).data.toList=[97] from rfl,Lp]
 rfl
theorem ZdX {a:Ty} (o:a.Own) (ha:a.kind=4) (w:a.words=[]):0≤a.min∧a.max≤1024∧a.min≤a.max:=by
 have b:=o.bounds (by omega) (by rw [w];simp)
 have c:AH a.kind=(0,1024):=by rw [ha];rfl
 rw [c] at b
 exact b
theorem Zh1 (n:Nat) (a b:Ty) (ha:a.kind=4) (hb:b.kind=4) (oa:a.Own) (ob:b.Own) (hn:1000≤n) (h:Zce a b=false) :
  ∃ w∈XE a,Es w b=false∧ER n a b=some (A4 w):=by
 have F:b.words.length≤64:=by
  rcases Nat.eq_zero_or_pos b.words.length with z | z
  ·omega
  ·exact (ob.words hb z).2.2.1
 have u:a.words.length≤64:=by
  rcases Nat.eq_zero_or_pos a.words.length with z | z
  ·omega
  ·exact (oa.words ha z).2.2.1
 have p:=ZjA n a b u a.words.length n 0 (by omega) (by omega)
 rw [ER,show ([]:List Vl)=(a.words.take 0).map A4 by simp,show (0:Int)=((0:Nat):Int) from rfl,p,EA,List.length_map]
 rw [Zce] at h
 by_cases w:a.words≠[]
 ·have:=List.length_pos_iff.2 w
  rw [Ah w,List.all_eq_false] at h
  rw [Ac,Ai (by decide),XE,Ah w]
  obtain ⟨x,i,m⟩:=h
  exact ZfZ n a b ha hb (by omega) (by omega) a.words (by omega) (by omega) ⟨x,i,by simpa using m⟩
 rw [Ai w] at h
 have w:a.words=[]:=Decidable.not_not.1 w
 obtain ⟨J,G,K⟩:=ZdX oa ha w
 have D:1≤W6 a:=by unfold W6;split<;>omega
 rw [w,Ag (by rfl),Ah rfl,Zdu n _ (by omega) (by omega),Ae,Zdu n _ (by omega) (by omega),Ae,Ah (by simp),List.map_nil,List.nil_append,XE,Ai (by rw [w];simp)]
 have g:∀ (q:List ByteArray),(∃ x∈[aS a.min.toNat,aS a.max.toNat]++q,Es x b=false)→q.length≤95→∃ x∈[aS a.min.toNat,aS a.max.toNat]++q,Es x b=false∧BD n a b (([aS a.min.toNat,aS a.max.toNat]++q).map A4)=some (A4 x):=fun q t E =>
  ZfZ n a b ha hb (by omega) (by omega) _ (by simp;omega) (by simp;omega) t
 have c:∃ x∈[aS a.min.toNat,aS a.max.toNat]++(if W6 a≤a.max then (List.range' 32 95).map (LW a) else []),Es x b=false:=by
  by_cases d:b.words≠[]
  ·rw [Ah d,Bool.and_eq_false_iff,decide_eq_false_iff_not] at h
   by_cases m0:a.max=0
   ·have h:=h.resolve_left (fun q=>q m0)
    refine ⟨aS a.max.toNat,by simp,?_⟩
    rw [m0];exact h
   ·have C:W6 a≤a.max:=by unfold W6;split<;>omega
    rw [Ah C]
    refine Decidable.byContradiction fun q=>?_
    have o:∀ x∈(List.range' 32 95).map (LW a),x∈b.words:=fun x i=>by
     have:Es x b=true:=by
      cases z:Es x b with
      | true=>rfl
      | false=>exact absurd ⟨x,List.mem_append_right _ i,z⟩ q
     rw [Es,Ai d,List.any_eq_true] at this
     obtain ⟨y,j,e⟩:=this
     rw [(Db _ _).1 e] at j
     exact j
    have v:((List.range' 32 95).map (LW a)).Nodup:=by
     rw [List.Nodup,List.pairwise_map]
     refine List.Pairwise.imp_of_mem ?_ (List.nodup_range' (s:=32) (n:=95))
     intro x y i j ne e
     rw [List.mem_range'_1] at i j
     exact ne (Ze0 a (by omega) (by omega) e)
    have:=To (fun _=>1) _ _ v o
    have ones:∀ l:List ByteArray,(l.map fun _=>1).sum=l.length:=fun l=>by
     induction l with
     | nil=>rfl
     | cons x r ih=>simp only [List.map_cons,List.sum_cons,ih,List.length_cons];omega
    rw [ones,ones] at this
    simp at this
    omega
  ·rw [Ai d,Ye,Bool.and_eq_false_iff,decide_eq_false_iff_not,decide_eq_false_iff_not] at h
   have d:b.words=[]:=Decidable.not_not.1 d
   have f:∀ k:Int,0≤k→(¬ b.min≤k∨¬ k≤b.max)→Es (aS k.toNat) b=false:=fun k H h=>by
    rw [Es,Ah d,Bool.eq_false_iff]
    intro q
    have q:=H3.1 q
    rw [Ue] at q
    omega
   rcases h with h | h
   ·exact ⟨aS a.min.toNat,by simp,f _ (by omega) (.inl h)⟩
   ·exact ⟨aS a.max.toNat,by simp,f _ (by omega) (.inr h)⟩
 by_cases C:W6 a≤a.max
 ·rw [Ah C] at c ⊢
  have e:=Zf9 n a b D (by omega) C 95 n 32 [aS a.min.toNat,aS a.max.toNat] (by omega) (by omega) (by omega) (by simp)
  have e:Br n a b n [A4 (aS a.min.toNat),A4 (aS a.max.toNat)] 32=_:=e
  rw [e]
  exact g _ c (by simp)
 ·rw [Ai C] at c ⊢
  obtain ⟨n',rfl⟩:∃ q,n=q+1:=⟨n-1,by omega⟩
  rw [ZeZ _ a b C]
  exact g [] c (by simp)
theorem Zc1 {a:Ty} (ha:a.kind=4) (oa:a.Own):∀ w∈XE a,Es w a=true:=by
 intro w hw
 unfold XE at hw
 by_cases z:a.words≠[]
 ·rw [Ah z] at hw
  rw [Es,Ai z,List.any_eq_true]
  exact ⟨w,hw,(Db _ _).2 rfl⟩
 rw [Ai z] at hw
 have z:a.words=[]:=Decidable.not_not.1 z
 obtain ⟨g,f,e⟩:=ZdX oa ha z
 rw [Es,Ah z,H3]
 have b:1≤W6 a∧a.min≤W6 a:=by unfold W6;split<;>omega
 simp only [List.cons_append,List.nil_append,List.mem_cons] at hw
 rcases hw with rfl | rfl | hw
 ·rw [Ue];omega
 ·rw [Ue];omega
 ·by_cases C:W6 a≤a.max
  ·rw [Ah C] at hw
   obtain ⟨c,d,rfl⟩:=List.mem_map.1 hw
   rw [Zca a c b.1];omega
  ·rw [Ai C] at hw;simp at hw
theorem ZaY {v:Vl} (k:1≤v.kind∧v.kind≤10) (h:AW v=true):¬ AO v=true:=by
 rcases Gs (k:=v.kind) (by omega) with tk | tk | tk | tk | tk | tk | tk | tk | tk | tk
 ·rw [AW,Ah tk,Bool.and_eq_true] at h
  obtain ⟨_,a,d,c,b⟩:=G7 _ _ _ _ _ h.2
  simp [AO,tk,a rfl,d rfl,c rfl,b rfl,Cj]
 ·rw [AW,Aa,Ab] at h
  obtain ⟨_,a,d,c,b⟩:=G7 _ _ _ _ _ h
  simp [AO,tk,a rfl,d rfl,c rfl,b rfl,Cj]
 ·rw [AW,Aa,Aa,Ab] at h
  obtain ⟨_,_,d,c,b⟩:=G7 _ _ _ _ _ h
  simp [AO,tk,d rfl,c rfl,b rfl,Cj]
 ·rw [AW,Aa,Aa,Aa,Ah tk,Bool.and_eq_true] at h
  obtain ⟨e,a,_,c,b⟩:=G7 _ _ _ _ _ h.2
  simp [AO,tk,e rfl,a rfl,c rfl,b rfl]
 ·rw [AW,Aa,Aa,Aa,Aa,Ah tk] at h
  obtain ⟨e,a,_,c,b⟩:=G7 _ _ _ _ _ h
  simp [AO,tk,e rfl,a rfl,c rfl,b rfl]
 ·rw [AW,Aa,Ab] at h
  obtain ⟨_,a,d,c,b⟩:=G7 _ _ _ _ _ h
  simp [AO,tk,a rfl,d rfl,c rfl,b rfl,Cj]
 ·rw [AW,Aa,Ab] at h
  obtain ⟨_,a,d,c,b⟩:=G7 _ _ _ _ _ h
  simp [AO,tk,a rfl,d rfl,c rfl,b rfl,Cj]
 ·rw [AW,Aa,Aa,Aa,Aa,Aa,Ah tk] at h
  obtain ⟨e,a,d,_,b⟩:=G7 _ _ _ _ _ h
  simp [AO,tk,e rfl,a rfl,d rfl,b rfl,Cj]
 ·rw [AW,Aa,Aa,Aa,Aa,Aa,Aa,Ah tk,Bool.and_eq_true] at h
  obtain ⟨e,a,d,c,_⟩:=G7 _ _ _ _ _ h.2
  simp [AO,tk,e rfl,a rfl,d rfl,c rfl,Cj]
 ·rw [AW,Aa,Aa,Aa,Aa,Aa,Aa,Aa,Ah tk,Bool.and_eq_true] at h
  obtain ⟨e,a,_,_,b⟩:=G7 _ _ _ _ _ h.2
  simp [AO,tk,e rfl,a rfl,b rfl]
theorem Ut {x lo hi:Int} (h1:lo≤x) (h2:x≤hi):Bd x lo hi=false:=by
 rw [Bd,Ac,Ac];rfl
theorem YR:∀ (l:List ByteArray) (o:Option ByteArray),QH o l=0→∀ x∈l,Qm x=0
 | [],_,_,x,hx=>by simp at hx
 | y::r,o,h,x,hx=>by
  have a:Qm y=0∧QH (some y) r=0:=by
   cases o with
   | none =>
    rw [QH] at h
    by_cases c:Qm y=0
    ·rw [Ah c] at h;exact ⟨c,h⟩
    ·rw [Ai c] at h;exact absurd h c
   | some p =>
    rw [QH] at h
    by_cases c:Qm y=0
    ·rw [Ah c] at h
     split at h
     ·cases h
     ·split at h
      ·cases h
      ·exact ⟨c,h⟩
    ·rw [Ai c] at h;exact absurd h c
  rcases List.mem_cons.1 hx with rfl | hx
  ·exact a.1
  ·exact YR r (some y) a.2 x hx
theorem Zex {x:ByteArray} (h:Qm x=0):x.size≤1024:=by
 have g:=GR (Gg (v:=Vl.mk 4 0 0 x [] []) h)
 have a:=(KY g).2
 have b:¬ A3 (Vl.mk 4 0 0 x [] [])=true:=fun q=>by rw [Ee,Ah q] at g;exact absurd g (by decide)
 rw [Ee,Ai b,Ai (by simp [Vl.kind]),Ai a,Ai (by simp [Vl.kind]),Ai (by simp [Vl.kind]),Ai (by simp [Vl.kind]),Ah (by simp [Vl.kind])] at g
 have g:(if 1024<x.size then (5:Int) else if Lib.validD x.data.toList=true then 0 else 16)=0:=g
 by_cases c:1024<x.size
 ·rw [Ah c] at g;exact absurd g (by decide)
 ·omega
theorem Su {t:Ty} (o:t.Own) (h:2≤t.kind∧t.kind≤8) (hw:¬ (t.kind=4∧0<t.words.length)) {lo hi x:Int} (e:AH t.kind=(lo,hi)) (hx:On x t=true):lo≤x∧x≤hi:=by
 obtain ⟨a,b,_⟩:=o.bounds h hw
 rw [e] at a b
 rw [H3] at hx
 simp only at a b
 omega
theorem MX:∀ (d:Nat) (t:Ty) (v:Vl),t.Good→Du d t v=true→v.Good
 | 0,t,v,_,h=>by simp [Du] at h
 | d+1,t,v,gt,f=>by
  have o:=gt.own
  obtain ⟨E,H,K,i⟩:=Lq f
  have G:=KZ ⟨H,K⟩ E i
  have hu:=ZaY (by omega) i
  have n:¬ A3 v=true:=by rw [Vt (by omega)];decide
  rw [Du,Ai G] at f
  have own:(Ee v=if v.kind=1 then (if Bd v.int 0 1=true then 2 else 0)
   else if v.kind=2 then (if Bd v.int (-999999999999999) 999999999999999=true∨Bd v.scale 0 12=true then 2 else 0)
   else if v.kind=3 then (if Bd v.int (-999999999999999) 999999999999999=true∨Bd v.scale 0 12=true then 2 else 0)
   else if v.kind=4 then (if 1024<v.text.size then 5 else if Lib.validD v.text.data.toList=true then 0 else 16)
   else if v.kind=5 then (if 1024<v.text.size then 5 else 0)
   else if v.kind=6 then (if Bd v.int (-719162) 2932896=true then 2 else 0)
   else if v.kind=7 then (if Bd v.int (-62135596800000) 253402300799999=true then 2 else 0)
   else if v.kind=8 then (if 256<v.list.length then 9 else 0)
   else if v.kind=9 then (if 64<v.fields.length then 9 else Oy none (v.fields.map Prod.fst))
   else if Ft v.text=true then (if v.list.length=0 then 4 else if 1<v.list.length then 3 else 0) else 12):=by
   rw [Ee,Ai n,Aa,Ai hu]
  have g:v.kind≠8→v.kind≠9→v.kind≠10→Ee v=0→v.Good:=fun N C D h => .mk v h fun x j=>by
   rw [Bn,Aa,Ai C] at j;simp at j
  rcases Gs (k:=t.kind) (by omega) with tk | tk | tk | tk | tk | tk | tk | tk | tk | tk
  ·refine g (by omega) (by omega) (by omega) ?_
   rw [AW,Ab,Bool.and_eq_true,Bool.or_eq_true,decide_eq_true_eq,decide_eq_true_eq] at i
   rw [own,Ab,Ut (by omega) (by omega)];rfl
  ·refine g (by omega) (by omega) (by omega) ?_
   rw [Ah (.inl tk)] at f
   obtain ⟨a,b⟩:=Su o (by omega) (by omega) (show AH t.kind=(-999999999999999,999999999999999) by rw [tk];decide) f
   rw [AW,Aa,Ab] at i
   have hs:=(G7 _ _ _ _ _ i).2.1 rfl
   rw [own,Aa,Ab,Ut a b,hs];decide
  ·refine g (by omega) (by omega) (by omega) ?_
   rw [Aa,Ah tk,Bool.and_eq_true,decide_eq_true_eq] at f
   obtain ⟨a,b⟩:=Su o (by omega) (by omega) (show AH t.kind=(-999999999999999,999999999999999) by rw [tk];decide) f.2
   have O:=o.scale
   rw [own,Aa,Aa,Ab,Ut a b,Ut (by omega) (by omega)];rfl
  ·refine g (by omega) (by omega) (by omega) ?_
   rw [Aa,Aa,Ah tk] at f
   rw [AW,Aa,Aa,Aa,Ab,Bool.and_eq_true] at i
   have sz:v.text.size≤1024:=by
    rw [Es] at f
    by_cases q:t.words=[]
    ·rw [Ah q] at f
     have:=(Su o (by omega) (fun z=>by rw [q] at z;simp at z) (show AH t.kind=(0,1024) by rw [tk];decide) f).2
     omega
    ·rw [Ai q] at f
     obtain ⟨x,j,e⟩:=List.any_eq_true.1 f
     have F:0<t.words.length:=List.length_pos_iff.2 q
     rw [←(Db _ _).1 e]
     exact Zex (YR t.words none (o.words tk F).2.2.2 x j)
   rw [own,Aa,Aa,Aa,Ab,Aa,Ah i.1]
  ·refine g (by omega) (by omega) (by omega) ?_
   rw [Aa,Aa,Aa,Ah tk] at f
   have:=(Su o (by omega) (by omega) (show AH t.kind=(0,1024) by rw [tk];decide) f).2
   rw [own,Aa,Aa,Aa,Aa,Ab,Aa]
  ·refine g (by omega) (by omega) (by omega) ?_
   rw [Ab] at f
   obtain ⟨a,b⟩:=Su o (by omega) (by omega) (show AH t.kind=(-719162,2932896) by rw [tk];decide) f
   rw [own,Aa,Aa,Aa,Aa,Aa,Ab,Ut a b];rfl
  ·refine g (by omega) (by omega) (by omega) ?_
   rw [Ab] at f
   obtain ⟨a,b⟩:=Su o (by omega) (by omega) (show AH t.kind=(-62135596800000,253402300799999) by rw [tk];decide) f
   rw [own,Aa,Aa,Aa,Aa,Aa,Aa,Ab,Ut a b];rfl
  ·rw [Aa,Aa,Aa,Aa,Ah tk,Bool.and_eq_true,List.all_eq_true] at f
   have:=(Su o (by omega) (by omega) (show AH t.kind=(0,256) by rw [tk];decide) f.1).2
   obtain ⟨x,j⟩:=o.elem tk
   refine .mk v ?_ fun u hu=>?_
   ·rw [own,Aa,Aa,Aa,Aa,Aa,Aa,Aa,Ab,Aa]
   ·rw [Bn,Ah (.inl (by omega))] at hu
    have:=f.2 u hu
    rw [j] at this
    exact MX d x u (Ea gt (by rw [j];simp)) this
  ·rw [Aa,Aa,Aa,Aa,Aa,Ah tk,Bool.and_eq_true,List.all_eq_true,List.all_eq_true] at f
   have s:=Ky i (by omega)
   have nm:∀ q∈v.fields,∃ p∈t.fields,p.2.1=q.1∧Du d p.2.2.2.1 q.2=true:=fun q m=>by
    have:=f.2 q m
    cases c:A7 t q.1 with
    | none=>rw [c] at this;cases this
    | some p =>
     obtain ⟨l,n⟩:=BC c
     have r:=f.1 p l
     rw [n,Jm s m] at r
     exact ⟨p,l,n,r⟩
   have len:v.fields.length≤64:=by
    have J:(v.fields.map Prod.fst).Nodup:=by
     unfold List.Nodup
     rw [List.pairwise_map]
     exact s.imp fun {x y} h e=>by rw [e,JB] at h;omega
    have:=To (fun _:ByteArray=>1) (v.fields.map Prod.fst) (t.fields.map fun p=>p.2.1) J fun x j=>by
     obtain ⟨q,m,rfl⟩:=List.mem_map.1 j
     obtain ⟨p,l,e,_⟩:=nm q m
     exact List.mem_map.2 ⟨p,l,e⟩
    simp only [List.map_const',List.sum_replicate_nat,List.length_map,Nat.mul_one] at this
    have:=o.fields
    omega
   refine .mk v ?_ fun u hu=>?_
   ·rw [own,Aa,Aa,Aa,Aa,Aa,Aa,Aa,Aa,Ab,Aa]
    exact Zaz v.fields s (fun q m=>by
     obtain ⟨p,l,e,_⟩:=nm q m
     rw [←e];exact (o.each p l).1) none (fun w hw=>by cases hw)
   ·rw [Bn,Aa,Ab] at hu
    obtain ⟨q,m,rfl⟩:=List.mem_map.1 hu
    obtain ⟨p,l,_,r⟩:=nm q m
    exact MX d _ _ (A9 gt l) r
  ·rw [Aa,Aa,Aa,Aa,Aa,Aa,Ah tk] at f
   have one:=Nq i (by omega)
   obtain ⟨x,j⟩:=List.length_eq_one_iff.1 one
   cases c:A7 t v.text with
   | none=>rw [c] at f;simp at f
   | some p =>
    rw [c,j] at f
    obtain ⟨l,n⟩:=BC c
    have f:Du d p.2.2.2.1 x=true:=f
    refine .mk v ?_ fun u hu=>?_
    ·rw [own,Aa,Aa,Aa,Aa,Aa,Aa,Aa,Aa,Aa,Ah (by rw [←n];exact (o.each p l).1),Aa,Aa]
    ·rw [Bn,Ah (.inr (by omega)),j,List.mem_singleton] at hu
     subst hu
     exact MX d _ _ (A9 gt l) f
def I9 (d:Nat) (a b:Ty) (w:Vl):Prop:=w.size≤5000*d∧w.ok∧(Du d a w=true→LN d a b w=none)∧(A8 d a≤4096→Du d a w=true)
theorem Ur {d:Nat} {a b:Ty} (sa:a.small) (fa:a.Fine 8) (hd:a.depth≤d+1) (hs:(Av 8 a).size≤4096) (h:LN (d+1) a b (Av 8 a)=none):I9 (d+1) a b (Av 8 a):=by
 obtain ⟨g1,g2⟩:=H7 8 (d+1) a sa fa hd
 exact ⟨by omega,L8 _ _ (Nat.le_refl _) g1,fun _=>h,fun _=>(OQ (d+1) (d+1) a _ fa.good g1 hd g2).1⟩
theorem Wc {d:Nat} {a b:Ty} (ha:1≤a.kind) (h:¬ A8 (d+1) a≤4096):I9 (d+1) a b nilV:=by
 refine ⟨?_,nilV_nar.ok,fun q=>?_,fun q=>absurd q h⟩
 ·have:=nilV.size_eq
  have e:nilV.size=1:=by simp [nilV,Vl.size,CJ,Bi]
  omega
 ·have:=(Lq q).1
  have e:nilV.kind=0:=rfl
  omega
theorem Xj (rec:Ty→Ty→Option Vl) (n d:Nat) (a b:Ty) (sa:a.small) (sb:b.small) (ga:a.Good) (fb:b.Fine 8) (hn:4000000000≤n)
  (k:((a.kind=2∨a.kind=3)∧(b.kind=2∨b.kind=3))∨(a.kind=b.kind∧(b.kind=6∨b.kind=7))) (h:Fe (d+1) a b=false):∃ w,AZ rec n a b true=some w∧I9 (d+1) a b w:=by
 have g:=ga.own
 have l:(a.kind=2∨a.kind=3)∨a.kind=6∨a.kind=7:=by omega
 have c:=g.bounds (by omega) (by omega)
 have i:=c.2.2
 have v : -1000000000000000≤a.min∧a.min≤1000000000000000:=by
  rcases l with (q | q) | q | q
  ·rw [q,show AH 2=(-999999999999999,999999999999999) by decide] at c;simp only at c;omega
  ·rw [q,show AH 3=(-999999999999999,999999999999999) by decide] at c;simp only at c;omega
  ·rw [q,show AH 6=(-719162,2932896) by decide] at c;simp only at c;omega
  ·rw [q,show AH 7=(-62135596800000,253402300799999) by decide] at c;simp only at c;omega
 have same:∀ x,LN (11+1) a b (LJ a x)=LN (d+1) a b (LJ a x):=fun x=>by
  rcases k with q | ⟨q,q2⟩
  ·rw [LN,LN,Ah q,Ah q]
  ·have u:∀ e,LN (e+1) a b (LJ a x)=if On x b=true then some (LJ a x) else none:=fun e=>by rw [LN,Aa,Aa,Ah q2];rfl
   exact (u 11).trans (u d).symm
 obtain ⟨x,hx,hx2⟩:∃ x∈JL a,LN (d+1) a b (LJ a x)=none:=by
  rcases k with q | ⟨q,q2⟩
  ·exact Zgg q h i
  ·exact Zgu q q2 h
 obtain ⟨j,m,p⟩:=List.mem_iff_getElem.1 hx
 obtain ⟨y,o,hf,e⟩:=Zdr rec n a b (fun x=>(LN (d+1) a b (LJ a x)).isSome) (fun z t=>by
  obtain ⟨r,C,s⟩:=Zkg n a b (LJ a z) sa sb ga fb (OO _ _ _ _ (by decide)) (by rw [LJ,KP];omega) (ZaL (d:=11) g l (Zby i z t)) hn
  exact ⟨r,C,by rw [s];exact congrArg Option.isSome (same z)⟩) ⟨x,hx,by simp only [hx2];rfl⟩ 3 n 0 (by omega) (by omega) ⟨j,Nat.zero_le _,m,by simp only [p,hx2];rfl⟩
 have f:Du (d+1) a (LJ a y)=true:=ZaL g l (Zby i y o)
 refine ⟨LJ a y,?_,?_,L8 _ _ (Nat.le_refl _) (MX (d+1) a _ ga f),fun _=>?_,fun _=>f⟩
 ·rw [AZ,Ah rfl,Ah (by unfold BM;omega)];exact e
 ·have e:(LJ a y).size=1:=by simp [LJ,Vl.size,CJ,Bi]
  omega
 ·cases q:LN (d+1) a b (LJ a y) with
  | none=>rfl
  | some z=>simp only [q] at hf;cases hf
theorem VK (c:UInt8) (hc:c.toNat<128):∀ k:Nat,Lib.validD (List.replicate k 97++[c])=true
 | 0=>by
  rw [List.replicate_zero,List.nil_append,Lib.validD_cons _ _ hc];exact Lib.validD_nil
 | k+1=>by
  rw [List.replicate_succ,List.cons_append,Lib.validD_cons _ _ (by decide)];exact VK c hc k
theorem QA {w:ByteArray} (h:Lib.validD w.data.toList=true):AW (A4 w)=true:=by
 simp [AW,A4,bare,Vl.kind,Vl.int,Vl.scale,Vl.text,Vl.list,Vl.fields,h]
theorem Zac {a:Ty} (ha:a.kind=4) (oa:a.Own):∀ w∈XE a,AW (A4 w)=true:=by
 intro w hw
 unfold XE at hw
 by_cases z:a.words≠[]
 ·rw [Ah z] at hw
  have b:Qm w=0:=Xh _ _ (oa.words ha (List.length_pos_iff.2 z)).2.2.2 w hw
  exact RX (GR (Gg b))
 rw [Ai z] at hw
 simp only [List.cons_append,List.nil_append,List.mem_cons] at hw
 rcases hw with rfl | rfl | hw
 ·exact QA (Sr _ 97 (by decide))
 ·exact QA (Sr _ 97 (by decide))
 ·by_cases C:W6 a≤a.max
  ·rw [Ah C] at hw
   obtain ⟨c,b,rfl⟩:=List.mem_map.1 hw
   rw [List.mem_range'_1] at b
   refine QA ?_
   rw [LW,ByteArray.data_append,Array.toList_append]
   exact VK _ (by simp only [Nat.toUInt8,UInt8.toNat_ofNat'];omega) _
  ·rw [Ai C] at hw;simp at hw
theorem ZfD (rec:Ty→Ty→Option Vl) (n d:Nat) (a b:Ty) (ga:a.Good) (gb:b.Good) (hn:4000000000≤n) (ka:a.kind=4) (kb:b.kind=4) (h:Fe (d+1) a b=false):∃ w,AZ rec n a b false=some w∧I9 (d+1) a b w:=by
 have f:=ga.own
 rw [Fe,Aa,Aa,Aa,Ah kb] at h
 obtain ⟨w,g,i,e⟩:=Zh1 n a b ka kb f gb.own (by omega) h
 have c:Du (d+1) a (A4 w)=true:=by
  rw [Du,Ai (KZ (t:=a) (v:=A4 w) (by omega) ka.symm (Zac ka f w g)),Aa,Aa,Ah ka]
  exact Zc1 ka f w g
 refine ⟨A4 w,?_,?_,L8 _ _ (Nat.le_refl _) (MX (d+1) a _ ga c),fun _=>?_,fun _=>c⟩
 ·rw [AZ,Ai (by decide),Ac,Ai (by decide),Ag kb,Ah rfl,e];rfl
 ·have e:(A4 w).size=1:=by simp [A4,Vl.size,CJ,Bi]
  omega
 ·rw [LN,Aa,Aa,Aa,Aa,Ah kb,Ai]
  intro q
  have q:Es w b=true:=q
  rw [i] at q;cases q
theorem Zh5 (rec:Ty→Ty→Option Vl) (n:Nat) (k:Int) (h0:0≤k) (h1:k≤1024):∃ s:ByteArray,(s.size:Int)=k∧DU rec n k=some (Vl.mk 5 0 0 s [] []):=by
 rw [DU]
 by_cases z:k=0
 ·rw [Ag z,Ah rfl,Ah (by decide)]
  exact ⟨_,by rw [z];rfl,rfl⟩
 ·rw [Af z,Ai (by decide),Ab,Ab]
  exact ⟨QB k.toNat,by rw [WS];omega,rfl⟩
theorem ZeQ (rec:Ty→Ty→Option Vl) (n d:Nat) (a b:Ty) (ga:a.Good) (ka:a.kind=5) (kb:b.kind=5) (h:Fe (d+1) a b=false):∃ w,AZ rec n a b false=some w∧I9 (d+1) a b w:=by
 have j:=ga.own
 rw [Fe,Aa,Aa,Aa,Aa,Aa,Aa,Aa,Ye,Bool.and_eq_false_iff,decide_eq_false_iff_not,decide_eq_false_iff_not] at h
 have i:=j.bounds (by omega) (by omega)
 rw [ka,show AH 5=(0,1024) by decide] at i
 simp only at i
 have g:∀ k:Int,a.min≤k→k≤a.max→(¬ b.min≤k∨¬ k≤b.max)→∃ w,DU rec n k=some w∧I9 (d+1) a b w:=fun k q1 q2 q3=>by
  obtain ⟨s,hs,e⟩:=Zh5 rec n k (by omega) (by omega)
  have f:Du (d+1) a (Vl.mk 5 0 0 s [] [])=true:=by
   have l:AW (Vl.mk 5 0 0 s [] [])=true:=by simp [AW,bare,Vl.kind,Vl.int,Vl.scale,Vl.text,Vl.list,Vl.fields]
   rw [Du,Ai (KZ (t:=a) (v:=Vl.mk 5 0 0 s [] []) (by omega) ka.symm l),Aa,Aa,Aa,Ah ka,H3]
   show a.min≤(s.size:Int)∧(s.size:Int)≤a.max
   omega
  refine ⟨_,e,?_,L8 _ _ (Nat.le_refl _) (MX (d+1) a _ ga f),fun _=>?_,fun _=>f⟩
  ·have e:(Vl.mk 5 0 0 s [] []).size=1:=by simp [Vl.size,CJ,Bi]
   omega
  ·rw [LN,Aa,Aa,Aa,Ah kb,Ai]
   rw [H3]
   show ¬ (b.min≤(s.size:Int)∧(s.size:Int)≤b.max)
   omega
 rw [AZ,Ai (by decide),Ag kb,Ah rfl]
 by_cases c:a.min<b.min
 ·rw [Ag c,Ah rfl];exact g _ (by omega) (by omega) (by omega)
 ·rw [Af c,Ai (by decide)];exact g _ (by omega) (by omega) (by omega)
theorem XG (n:Nat) (x:Ty) (k:Nat) (hn:3000000≤n) (sx:x.small) (fx:x.Fine 8) (h0:Bz n x=some 0) (hk:k≤1024) :
  D8 n x k=some (if 4096<k*(Av 8 x).size then nilV else Vl.mk 8 0 0 ⟨#[]⟩ (List.replicate k (Av 8 x)) []):=by
 obtain ⟨e,hs⟩:=ON n x hn sx fx h0
 obtain ⟨g1,_⟩:=H7 8 12 x sx fx sx.2.1
 have b:Nl (Av 8 x)=some ((Av 8 x).size:Int):=by rw [S4 _ (by omega),QY _ _ 1 (Nat.le_refl _) g1]
 have q1:k*(Av 8 x).size≤1024*4096:=Nat.mul_le_mul hk hs
 rw [D8,e,Ae,b,Ae,←Int.natCast_mul,Ah (by unfold BM;omega)]
 by_cases c:4096<k*(Av 8 x).size
 ·rw [Ag (by omega),Ah rfl,Ah c]
 ·rw [Ac,Ai (by decide),Ai c]
  have a:∀ (j m i:Nat),i+j=k→j<m→DY n k (Av 8 x) m i (List.replicate i (Av 8 x))=some (Vl.mk 8 0 0 ⟨#[]⟩ (List.replicate k (Av 8 x)) []):=by
   intro j
   induction j with
   | zero =>
    intro m i d f
    obtain ⟨m,rfl⟩:∃ q,m=q+1:=⟨m-1,by omega⟩
    rw [DY,Ac,Ai (by decide),Hf,show i=k by omega]
   | succ j ih =>
    intro m i d f
    obtain ⟨m,rfl⟩:∃ q,m=q+1:=⟨m-1,by omega⟩
    rw [DY,Ag (show (i:Int)<(k:Int) by omega),Ah rfl,FZ n _ (by omega) (by omega),Ae,Ah (by rw [List.length_replicate];omega),Ah (AK (by omega)),←List.replicate_succ']
    exact ih m (i+1) (by omega) (by omega)
  exact a k n 0 (by omega) (by omega)
theorem Ze {d:Nat} {a x:Ty} (ka:a.kind=8) (hx:a.elem=[x]) (sx:x.small) (fx:x.Fine 8) (hd:x.depth≤d) {k:Nat} (hk:(k:Int)≤a.max) (h:4096<k*(Av 8 x).size):¬ A8 (d+1) a≤4096:=by
 intro b
 have e:A8 (d+1) a=1+a.max*A8 d x:=by
  have q:=b
  rw [A8,Ah ka,hx] at q ⊢
  exact (Le _).2.1 q
 rw [e] at b
 have g:=Jc d x fx.good
 have f:0<k:=by
  rcases Nat.eq_zero_or_pos k with z | z
  ·rw [z] at h;simp at h
  ·exact z
 have c:0≤(a.max-1)*A8 d x:=Int.mul_nonneg (by omega) (by omega)
 rw [Int.sub_mul,Int.one_mul] at c
 obtain ⟨g1,g2⟩:=H7 8 d x sx fx hd
 have hs:=QR d x _ fx.good g1 g2 (by omega)
 have q1:0≤(a.max-k)*A8 d x:=Int.mul_nonneg (by omega) (by omega)
 have q2:0≤(k:Int)*(A8 d x-(Av 8 x).size):=Int.mul_nonneg (by omega) (by omega)
 rw [Int.sub_mul] at q1
 rw [Int.mul_sub] at q2
 have q3:((k*(Av 8 x).size:Nat):Int)=(k:Int)*((Av 8 x).size:Int):=Int.natCast_mul _ _
 omega
theorem WA {d:Nat} {a x:Ty} {l:List Vl} (ka:a.kind=8) (hx:a.elem=[x]):Du (d+1) a (Vl.mk 8 0 0 ⟨#[]⟩ l [])=(On l.length a&&l.all fun u=>Du d x u):=by
 have b:AW (Vl.mk 8 0 0 ⟨#[]⟩ l [])=true:=by simp [AW,bare,Vl.kind,Vl.int,Vl.scale,Vl.text,Vl.list,Vl.fields,Cj]
 rw [Du,Ai (KZ (t:=a) (v:=Vl.mk 8 0 0 ⟨#[]⟩ l []) (by omega) ka.symm b),Aa,Aa,Aa,Aa,Ah ka,hx]
 rfl
theorem ZdI {d:Nat} {a b x y:Ty} {l:List Vl} (ka:a.kind=8) (kb:b.kind=8) (hx:a.elem=[x]) (hy:b.elem=[y]):LN (d+1) a b (Vl.mk 8 0 0 ⟨#[]⟩ l [])=((Va (LN d x y) l).bind fun l'=>if On l.length b=true then some (Vl.mk 8 0 0 ⟨#[]⟩ l' []) else none):=by
 rw [LN,Aa,Aa,Aa,Aa,Aa,Ah kb,hx,hy]
 rfl
theorem Re {d:Nat} {x:Ty} (sx:x.small) (fx:x.Fine 8) (hd:x.depth≤d):Du d x (Av 8 x)=true:=by
 obtain ⟨g1,g2⟩:=H7 8 d x sx fx hd
 exact (OQ d d x _ fx.good g1 hd g2).1
theorem Zdm {l:List Vl} (h:∀ x∈l,x.ok):(Vl.mk 8 0 0 ⟨#[]⟩ l []).ok:=(Vl.ok_eq _).2 ⟨Nat.zero_le _,h,by simp [Vl.fields]⟩
theorem ZgE (rec:Ty→Ty→Option Vl) (n d:Nat) (a b:Ty) (sa:a.small) (fa:a.Fine 8) (gb:b.Good) (hn:4000000000≤n) (hc:Bz n a=some 0) (hd:a.depth≤d+1) (ka:a.kind=8) (kb:b.kind=8) (h:Fe (d+1) a b=false)
  (hr:∀ x y,a.elem=[x]→b.elem=[y]→Fe d x y=false→∃ w,rec x y=some w∧I9 d x y w):∃ w,AZ rec n a b false=some w∧I9 (d+1) a b w:=by
 have z:=fa.good.own
 obtain ⟨x,f⟩:=z.elem ka
 obtain ⟨y,p⟩:=gb.own.elem kb
 have i:x∈a.elem:=by rw [f];simp
 obtain ⟨v,g⟩:=Xd n a x (by omega) sa fa hc i
 have sx:=Ty.small_elem sa i
 have dx:=Ty.depth_elem i
 have C:=z.bounds (by omega) (by omega)
 rw [ka,show AH 8=(0,256) by decide] at C
 simp only at C
 rw [Fe,Aa,Aa,Aa,Aa,Ah kb,Ye,f,p] at h
 simp only [Bool.and_eq_false_iff,Bool.or_eq_false_iff,decide_eq_false_iff_not] at h
 have hs:=(ON n x (by omega) sx g v).2
 have r:(Av 8 x).ok:=L8 _ _ (Nat.le_refl _) (H7 8 12 x sx g sx.2.1).1
 rw [AZ,Ai (by decide),Ac,Ai (by decide),Ac,Ai (by decide),Ag kb,Ah rfl,f,show B1 [x] 0=some x from rfl,Ae]
 have m:∀ k:Int,a.min≤k→k≤a.max→(¬ b.min≤k∨¬ k≤b.max)→∃ w,((D8 n x k).bind fun s=>some s)=some w∧I9 (d+1) a b w:=fun k q1 q2 q3=>by
  obtain ⟨j,rfl⟩:∃ j:Nat,k=j:=⟨k.toNat,by omega⟩
  rw [XG n x j (by omega) sx g v (by omega),Ae]
  by_cases c:4096<j*(Av 8 x).size
  ·rw [Ah c];exact ⟨_,rfl,Wc (by omega) (Ze ka f sx g (by omega) q2 c)⟩
  ·rw [Ai c]
   refine ⟨_,rfl,?_,Zdm fun u hu=>by rw [List.eq_of_mem_replicate hu];exact r,fun _=>?_,fun _=>?_⟩
   ·have e:(Vl.mk 8 0 0 ⟨#[]⟩ (List.replicate j (Av 8 x)) []).size=j*(Av 8 x).size+1:=by simp only [Vl.size,Uk,Bi];omega
    omega
   ·rw [ZdI ka kb f p,List.length_replicate]
    have F:¬ On (j:Int) b=true:=fun q=>by rw [H3] at q;omega
    cases Va (LN d x y) (List.replicate j (Av 8 x)) with
    | none=>rfl
    | some l=>rw [Ae,Ai F]
   ·rw [WA ka f,List.length_replicate,Bool.and_eq_true,H3,List.all_eq_true]
    exact ⟨⟨q1,q2⟩,fun u hu=>by rw [List.eq_of_mem_replicate hu];exact Re sx g (by omega)⟩
 by_cases c1:a.min<b.min
 ·rw [Ag c1,Ah rfl];exact m _ (by omega) (by omega) (by omega)
 rw [Af c1,Ai (by decide)]
 by_cases c2:b.max<a.max
 ·rw [Ag c2,Ah rfl]
  have o:=gb.own.bounds (by omega) (by omega)
  rw [kb,show AH 8=(0,256) by decide] at o
  simp only at o
  rw [Ah (by unfold BM;omega)]
  refine m _ ?_ ?_ ?_
  ·split<;>omega
  ·split<;>omega
  ·right;split<;>omega
 rw [Af c2,Ai (by decide)]
 obtain ⟨m0,hcd⟩:¬ a.max=0∧Fe d x y=false:=by
  rcases h with (h | h) | h
  ·omega
  ·omega
  ·exact h
 obtain ⟨w,K,U,t,J,E⟩:=hr x y f p hcd
 obtain ⟨j,hj,hj1⟩:∃ j:Nat,(if a.min<1 then 1 else a.min)=((j+1:Nat):Int)∧((j+1:Nat):Int)≤a.max∧a.min≤((j+1:Nat):Int):=by
  by_cases q:a.min<1
  ·exact ⟨0,by rw [Ah q];rfl,by omega,by omega⟩
  ·exact ⟨a.min.toNat-1,by rw [Ai q];omega,by omega,by omega⟩
 rw [hj,XG n x (j+1) (by omega) sx g v (by omega),Ae]
 by_cases c:4096<(j+1)*(Av 8 x).size
 ·rw [Ah c]
  exact ⟨nilV,by rw [Af (by decide),Ai (by decide)];rfl,Wc (by omega) (Ze ka f sx g (by omega) hj1.1 c)⟩
 ·rw [Ai c]
  have N:(Vl.mk 8 0 0 ⟨#[]⟩ (List.replicate (j+1) (Av 8 x)) []).list=Av 8 x::List.replicate j (Av 8 x):=List.replicate_succ
  rw [N,Ag (by rw [List.length_cons];omega),Ah rfl,p,show B1 [y] 0=some y from rfl,Ae,K,Ae,show B1 (Av 8 x::List.replicate j (Av 8 x)) 0=some (Av 8 x) from rfl,Ae]
  refine ⟨Vl.mk 8 0 0 ⟨#[]⟩ (w::List.replicate j (Av 8 x)) [],rfl,?_,Zdm fun u hu=>?_,fun D=>?_,fun H=>?_⟩
  ·have e:(Vl.mk 8 0 0 ⟨#[]⟩ (w::List.replicate j (Av 8 x)) []).size=w.size+j*(Av 8 x).size+1:=by simp only [Vl.size,CJ,Uk,Bi];omega
   rw [Nat.succ_mul] at c
   omega
  ·rcases List.mem_cons.1 hu with rfl | hu
   ·exact t
   ·rw [List.eq_of_mem_replicate hu];exact r
  ·rw [WA ka f,Bool.and_eq_true,List.all_eq_true] at D
   rw [ZdI ka kb f p,Va,J (D.2 w (List.mem_cons_self ..))]
   rfl
  ·rw [WA ka f,Bool.and_eq_true,H3,List.all_eq_true,List.length_cons,List.length_replicate]
   refine ⟨by omega,fun u hu=>?_⟩
   rcases List.mem_cons.1 hu with rfl | hu
   ·refine E ?_
    have Q:A8 (d+1) a=1+a.max*A8 d x:=by
     have q:=H
     rw [A8,Ah ka,f] at q ⊢
     exact (Le _).2.1 q
    have O:=Jc d x g.good
    have G:0≤(a.max-1)*A8 d x:=Int.mul_nonneg (by omega) (by omega)
    rw [Int.sub_mul,Int.one_mul] at G
    omega
   ·rw [List.eq_of_mem_replicate hu];exact Re sx g (by omega)
theorem Zd4 (f:Ty→Ty→Vl→Option Vl) (a:Ty) (v:Vl):∀ (gs:List TF) (g:TF),g∈gs→O3 f a v g=none→T8 f a v gs=none
 | [],g,h,_=>by simp at h
 | x::r,g,h,e=>by
  rw [T8]
  rcases List.mem_cons.1 h with rfl | h
  ·rw [e];rfl
  ·rw [Zd4 f a v r g h e];cases O3 f a v x<;>rfl
theorem Zct {d:Nat} {a b:Ty} {v:Vl} (ka:a.kind=9) (kb:b.kind=9) {g:TF} (hg:g∈b.fields) (h:O3 (LN d) a v g=none):LN (d+1) a b v=none:=by
 rw [LN,Aa,Aa,Aa,Aa,Aa,Aa,Ah kb,Zd4 _ _ _ _ g hg h]
 rfl
theorem ZeI (n:Nat) (v x:Vl) (w:ByteArray) (hn:v.size+10≤n) (hs:v.size≤1000000) (hk:v.kind=9) (hw:w.size≤maxLen) (hw2:Ft w=true) (hx2:A3 x=true):Ia n v w x=some (nilV,19):=by
 have a:=ML v
 have e:BW n v.fields (fun x=>some (F7 x w))=some (O0 (fun x:ByteArray × Vl=>Eb x.1 w) v.fields 0):=UE n v.fields _ _ (fun x _=>rfl) (by omega) v.fields.length n 0 (by omega) (by omega)
 rw [Ia,JF,e]
 simp only [Ae]
 rw [Ag hk,Ai (by decide),Ah hw,hw2,Ai (by decide),hx2,Ah rfl]
theorem YY {d:Nat} {a:Ty} (ka:a.kind=9):Av (d+1) a=Vl.mk 9 0 0 ⟨#[]⟩ [] (BS (a.fields.filterMap (BR (Av d)))):=by
 rw [Av,Aa,Aa,Aa,Aa,Aa,Ah ka]
theorem Y3 {t:Ty} (o:t.Own) {p q:TF} (hp:p∈t.fields) (hq:q∈t.fields) (h:p.2.1=q.2.1):p=q:=by
 obtain ⟨a,_⟩:=HM _ _ _ o.apart
 have b:=G9 a hp
 have c:=G9 a hq
 rw [h] at b
 exact Option.some.inj (b.symm.trans c)
theorem ZeA {d:Nat} {a:Ty} (ka:a.kind=9) (o:a.Own) {p:TF} (hp:p∈a.fields) (h2:p.2.2.1=2):DG (Av (d+1) a) p.2.1=none:=by
 cases c:DG (Av (d+1) a) p.2.1 with
 | none=>rfl
 | some y =>
  obtain ⟨q,b,e,_⟩:=IC c
  rw [YY ka] at b
  obtain ⟨r,f,e1⟩:=List.mem_filterMap.1 ((Gj _).mem_iff.1 b)
  have:=Y3 o f hp (by rw [←Lo e1,e])
  subst this
  unfold BR at e1
  rw [Aa,Aa] at e1
  cases e1
theorem ZL {d:Nat} {a:Ty} {v:Vl} (ka:a.kind=9) (hk:v.kind=9) (hf:AW v=true):Du (d+1) a v=((a.fields.all fun p=>match DG v p.2.1 with | some y=>Du d p.2.2.2.1 y | none=>decide (p.2.2.1=2))&&v.fields.all fun q=>(A7 a q.1).isSome):=by
 rw [Du,Ai (KZ (t:=a) (v:=v) (by omega) (by omega) hf),Aa,Aa,Aa,Aa,Aa,Ah ka]
 rfl
theorem Zco {fs:List (ByteArray × Vl)} (h:SS fs):AW (Vl.mk 9 0 0 ⟨#[]⟩ [] fs)=true:=by
 have:=(Zy _).2 h
 simp [AW,bare,Vl.kind,Vl.int,Vl.scale,Vl.text,Vl.list,Vl.fields,Cj,this]
theorem ZgW {d:Nat} {a b:Ty} (n:Nat) (sa:a.small) (fa:a.Fine 8) (hn:4000000000≤n) (hd:a.depth≤d+1) (hd2:d≤12) (hs:(Av 8 a).size≤4096) (ka:a.kind=9) (kb:b.kind=9) {p g:TF} (hp:p∈a.fields) (hg:g∈b.fields) (hpg:Gx a.fields g.1=some p) {w:Vl} (hw:I9 d p.2.2.2.1 g.2.2.2.1 w) :
  ∃ y,Ia n (Av 8 a) p.2.1 w=some y∧I9 (d+1) a b y.1:=by
 obtain ⟨w1,C,Y,H⟩:=hw
 have F:(Av 8 a).ok:=L8 _ _ (Nat.le_refl _) (H7 8 12 a sa fa sa.2.1).1
 have s:=fa.good.own
 have sp:=Ty.small_field sa hp
 have nm:=(s.each p hp).1
 have V:=Qg nm
 have h:(Av 8 a).kind=9:=by rw [Vp 7 a];exact ka
 have hv:Av 8 a=Vl.mk 9 0 0 ⟨#[]⟩ [] (Av 8 a).fields:=by rw [YY (d:=7) ka];rfl
 have K:=Re sa fa hd
 have k:=(Lq K).2.2.2
 have D:=Ky k h
 have f:=K
 rw [ZL ka h k,Bool.and_eq_true,List.all_eq_true,List.all_eq_true] at f
 have N:A8 (d+1) a≤4096→A8 d p.2.2.2.1≤4096:=fun m=>by
  have em:A8 (d+1) a=1+(a.fields.map fun p=>A8 d p.2.2.2.1).sum:=by
   have q:=m
   rw [A8,Aa,Ah ka] at q ⊢
   exact (Le _).2.1 q
  have:A8 d p.2.2.2.1≤(a.fields.map fun p=>A8 d p.2.2.2.1).sum:=SD (fun p=>A8 d p.2.2.2.1) a.fields (fun p hp=>by have:=Jc d p.2.2.2.1 (A9 fa.good hp);omega) p hp
  omega
 by_cases nul:A3 w=true
 ·refine ⟨_,ZeI n _ w p.2.1 (by omega) (by omega) h (by unfold maxLen;omega) nm nul,Wc (by omega) fun m=>?_⟩
  have:=H (N m)
  obtain ⟨k1,k2,_⟩:=Lq this
  rw [I2 (by omega)] at nul
  cases nul
 have nul:A3 w=false:=by cases q:A3 w with | true=>exact absurd q nul | false=>rfl
 have U:w.size≤65000:=by omega
 rcases Zd9 n (Av 8 a) w p.2.1 (by omega) (by omega) (by omega) (by omega) h (by unfold maxLen;omega) nm nul D with ⟨h1,h2,_⟩ | ⟨fs,e,s1,s2,s3,s4,s5,_,_⟩
 ·exfalso
  have nd:=Y7 D f.2
  have Q:p ∉ ofF a (Av 8 a).fields:=fun q=>by
   obtain ⟨z,hz,e⟩:=List.mem_filterMap.1 q
   have:=(BC e).2
   unfold Qf at h1
   rw [List.any_eq_false] at h1
   exact h1 z hz ((Db _ _).2 this.symm)
  have:=To (fun _:TF=>1) (p::ofF a (Av 8 a).fields) a.fields (List.nodup_cons.2 ⟨Q,nd⟩) fun z hz=>by
   rcases List.mem_cons.1 hz with rfl | hz
   ·exact hp
   ·exact ZdO z hz
  have Z:=congrArg List.length (UA (t:=a) f.2)
  rw [List.length_map,List.length_map] at Z
  simp only [List.map_const',List.sum_replicate_nat,List.length_cons,Nat.mul_one] at this
  have:=s.fields
  omega
 ·refine ⟨_,e,?_⟩
  rw [hv]
  show I9 (d+1) a b (Vl.mk 9 0 0 ⟨#[]⟩ [] fs)
  have o:=Zco s1
  have E:DG (Vl.mk 9 0 0 ⟨#[]⟩ [] fs) p.2.1=some w:=Jm (v:=Vl.mk 9 0 0 ⟨#[]⟩ [] fs) s1 s2
  refine ⟨?_,(Vl.ok_eq _).2 ⟨Nat.zero_le _,by simp [Vl.list],fun q i=>?_⟩,fun O=>?_,fun m=>?_⟩
  ·have e1:=(Av 8 a).size_eq
   have e2:(Vl.mk 9 0 0 ⟨#[]⟩ [] fs).size=1+Bi fs:=by simp [Vl.size,CJ]
   omega
  ·rcases s3 q i with r | r
   ·rw [r];exact ⟨by show p.2.1.size≤_;omega,C⟩
   ·exact ((Vl.ok_eq _).1 F).2.2 q r
  ·rw [ZL ka rfl o,Bool.and_eq_true,List.all_eq_true,List.all_eq_true] at O
   have:=O.1 p hp
   rw [E] at this
   refine Zct ka kb hg ?_
   rw [O3,hpg]
   simp only [E,Y this]
   rfl
  ·rw [ZL ka rfl o,Bool.and_eq_true,List.all_eq_true,List.all_eq_true]
   obtain ⟨u,_⟩:=HM _ _ _ s.apart
   refine ⟨fun q i=>?_,fun q i=>?_⟩
   ·by_cases c:q.2.1=p.2.1
    ·obtain rfl:=Y3 s i hp c
     rw [E];exact H (N m)
    ·have l:=f.1 q i
     cases z:DG (Av 8 a) q.2.1 with
     | some y =>
      rw [z] at l
      obtain ⟨x,G,j,J⟩:=IC z
      have:=Jm (v:=Vl.mk 9 0 0 ⟨#[]⟩ [] fs) s1 (s4 x G (by rw [j];exact c))
      rw [j,J] at this
      rw [this];exact l
     | none =>
      rw [z] at l
      cases z2:DG (Vl.mk 9 0 0 ⟨#[]⟩ [] fs) q.2.1 with
      | none=>exact l
      | some y =>
       obtain ⟨x,G,j,J⟩:=IC z2
       rcases s3 x G with r | r
       ·rw [r] at j;exact absurd j.symm c
       ·have:=Jm D r
        rw [j,z] at this;cases this
   ·rcases s3 q i with r | r
    ·rw [r,show (p.2.1,w).1=p.2.1 from rfl,G9 u hp];rfl
    ·exact f.2 q r
theorem ZiU (rec:Ty→Ty→Option Vl) (n d:Nat) (a b:Ty) (sa:a.small) (sb:b.small) (fa:a.Fine 8) (gb:b.Good) (hn:4000000000≤n) (hc:Bz n a=some 0) (hd:a.depth≤d+1) (hd2:d≤12) (ka:a.kind=9) (kb:b.kind=9) (h:Fe (d+1) a b=false)
  (hr:∀ p∈a.fields,∀ g∈b.fields,Fe d p.2.2.2.1 g.2.2.2.1=false→∃ w,rec p.2.2.2.1 g.2.2.2.1=some w∧I9 d p.2.2.2.1 g.2.2.2.1 w)
  (hk:∀ p∈a.fields,∀ g∈b.fields,AN n p.2.2.2.1 g.2.2.2.1=some (Fe d p.2.2.2.1 g.2.2.2.1)):∃ w,AZ rec n a b false=some w∧I9 (d+1) a b w:=by
 have C:=fa.good.own
 have Q:=C.fields
 have O:=gb.own.fields
 obtain ⟨le,u⟩:=ON n a (by omega) sa fa hc
 rw [Fe,Aa,Aa,Aa,Aa,Aa,Ah kb] at h
 have h:b.fields.all (Yu (Fe d) a)=false:=h
 rw [List.all_eq_false] at h
 have s:∀ (k m i:Nat),i+k=b.fields.length→k<m→(∃ j,i≤j∧∃ h:j<b.fields.length,Yu (Fe d) a b.fields[j]=false)→∃ w,Em rec n a b m i=some w∧I9 (d+1) a b w:=by
  intro k
  induction k with
  | zero=>intro m i K F ⟨j,G,v,_⟩;omega
  | succ k ih =>
   intro m i K F ⟨j,G,v,x⟩
   obtain ⟨m,rfl⟩:∃ q,m=q+1:=⟨m-1,by omega⟩
   have o:i<b.fields.length:=by omega
   have f:=List.getElem_mem o
   have l:Gq (AN n) n a b.fields[i]=some (Yu (Fe d) a b.fields[i]):=by
    rw [Gq,NS n a.fields _ (by omega) (by omega),Ae,Yu]
    cases q:Gx a.fields b.fields[i].1 with
    | none=>rfl
    | some p=>rw [Ai (by simp),Option.getD_some,hk p (Z1 q).1 _ f];rfl
   rw [Em,AC,Ag o,Ah rfl,AM o,Ae,l,Ae]
   cases c:Yu (Fe d) a b.fields[i] with
   | true =>
    rw [Ah rfl,Ah (AK (by omega))]
    refine ih m (i+1) (by omega) (by omega) ⟨j,?_,v,x⟩
    rcases Nat.lt_or_ge i j with z | z
    ·omega
    ·obtain rfl:i=j:=by omega
     exact absurd (c.symm.trans x) (by decide)
   | false =>
    rw [Ai (by decide),NS n a.fields _ (by omega) (by omega),Ae]
    rw [Yu] at c
    cases q:Gx a.fields b.fields[i].1 with
    | none =>
     rw [q] at c
     simp only [Bool.not_eq_false',decide_eq_true_eq] at c
     rw [Ah (by rfl),le]
     refine ⟨_,rfl,Ur sa fa hd u (Zct ka kb f ?_)⟩
     rw [O3,q,Zbt,Ah c]
    | some p =>
     rw [q] at c
     have r:=(Z1 q).1
     simp only [Option.isSome_some,Option.getD_some,Bool.not_true]
     rw [Ai (by decide),hk p r _ f,Ae]
     cases e:Fe d p.2.2.2.1 b.fields[i].2.2.2.1 with
     | true =>
      simp only [e,Bool.true_and,Bool.not_eq_false',Bool.and_eq_true,decide_eq_true_eq] at c
      rw [Ah rfl,le]
      refine ⟨_,rfl,Ur sa fa hd u (Zct ka kb f ?_)⟩
      rw [O3,q]
      simp only [ZeA (d:=7) ka C r c.2]
      rw [Zbt,Ah c.1]
     | false =>
      rw [Ai (by decide),le,Ae]
      obtain ⟨w,J,E⟩:=hr p r _ f e
      obtain ⟨y,N,H⟩:=ZgW n sa fa hn hd hd2 u ka kb r f q E
      rw [J,Ae,N]
      exact ⟨_,rfl,H⟩
 obtain ⟨g,f,t⟩:=h
 obtain ⟨j,D,e⟩:=List.mem_iff_getElem.1 f
 rw [AZ,Ai (by decide),Ac,Ai (by decide),Ac,Ai (by decide),Ac,Ai (by decide),Ag kb,Ah rfl]
 exact s b.fields.length n 0 (by omega) (by omega) ⟨j,Nat.zero_le _,D,by rw [e];simpa using t⟩
theorem Zdn {d:Nat} {a:Ty} (ka:a.kind=10) (o:a.Own) {p:TF} (hp:p∈a.fields) (y:Vl):Du (d+1) a (Vl.mk 10 0 0 p.2.1 [y] [])=Du d p.2.2.2.1 y:=by
 obtain ⟨b,_⟩:=HM _ _ _ o.apart
 have c:AW (Vl.mk 10 0 0 p.2.1 [y] [])=true:=by simp [AW,bare,Vl.kind,Vl.int,Vl.scale,Vl.text,Vl.list,Vl.fields]
 rw [Du,Ai (KZ (t:=a) (v:=Vl.mk 10 0 0 p.2.1 [y] []) (by omega) ka.symm c),Aa,Aa,Aa,Aa,Aa,Aa,Ah ka]
 show (match A7 a p.2.1,[y] with | some p,x::_=>Du d p.2.2.2.1 x | _,_=>false)=_
 rw [G9 b hp]
theorem ZjP {d:Nat} {a b:Ty} (ka:a.kind=10) (kb:b.kind=10) (o:a.Own) {p:TF} (hp:p∈a.fields) (y:Vl) (h:∀ g,Gx b.fields p.1=some g→LN d p.2.2.2.1 g.2.2.2.1 y=none):LN (d+1) a b (Vl.mk 10 0 0 p.2.1 [y] [])=none:=by
 obtain ⟨c,_⟩:=HM _ _ _ o.apart
 rw [LN,Aa,Aa,Aa,Aa,Aa,Aa,Aa,Ah kb]
 show (match A7 a p.2.1,[y] with | some p,x::_=>(match Gx b.fields p.1 with | some g=>(LN d p.2.2.2.1 g.2.2.2.1 x).map fun y=>Vl.mk 10 0 0 g.2.1 [y] [] | none=>none) | _,_=>none)=_
 rw [G9 c hp]
 cases q:Gx b.fields p.1 with
 | none=>simp only [q]
 | some g=>simp only [q,h g q];rfl
theorem Zix (rec:Ty→Ty→Option Vl) (n d:Nat) (a b:Ty) (sa:a.small) (sb:b.small) (fa:a.Fine 8) (gb:b.Good) (hn:4000000000≤n) (hc:Bz n a=some 0) (hd:a.depth≤d+1) (hd2:d≤12) (ka:a.kind=10) (kb:b.kind=10) (h:Fe (d+1) a b=false)
  (hr:∀ p∈a.fields,∀ g∈b.fields,Fe d p.2.2.2.1 g.2.2.2.1=false→∃ w,rec p.2.2.2.1 g.2.2.2.1=some w∧I9 d p.2.2.2.1 g.2.2.2.1 w)
  (hk:∀ p∈a.fields,∀ g∈b.fields,AN n p.2.2.2.1 g.2.2.2.1=some (Fe d p.2.2.2.1 g.2.2.2.1)):∃ w,AZ rec n a b false=some w∧I9 (d+1) a b w:=by
 have s:=fa.good.own
 have la:=s.fields
 have V:=gb.own.fields
 rw [Fe,Aa,Aa,Aa,Aa,Aa,Aa,Ah kb] at h
 have h:a.fields.all (Yw (Fe d) b)=false:=h
 rw [List.all_eq_false] at h
 have fin:∀ p∈a.fields,∀ y:Vl,y.size≤4096+5000*d→y.ok→(Du d p.2.2.2.1 y=true→∀ g,Gx b.fields p.1=some g→LN d p.2.2.2.1 g.2.2.2.1 y=none)→(A8 d p.2.2.2.1≤4096→Du d p.2.2.2.1 y=true)→∃ w,((EP n p.2.1 y).bind fun r=>some r)=some w∧I9 (d+1) a b w:=fun p f y Y D J U=>by
  have e:(Vl.mk 10 0 0 p.2.1 [y] []).size=y.size+1:=by simp only [Vl.size,CJ,Bi];omega
  refine ⟨Vl.mk 10 0 0 p.2.1 [y] [],?_,by omega,(Vl.ok_eq _).2 ⟨?_,fun x E=>?_,by simp [Vl.fields]⟩,fun hf=>?_,fun v=>?_⟩
  ·rw [EP,FZ n _ (by omega) (by omega)];rfl
  ·have:=Qg (s.each p f).1
   show p.2.1.size≤_
   omega
  ·have E:x∈[y]:=E
   rw [List.mem_singleton.1 E];exact D
  ·rw [Zdn ka s f] at hf
   exact ZjP ka kb s f y (J hf)
  ·rw [Zdn ka s f]
   have em:A8 (d+1) a=a.fields.foldl (fun a p=>V3 a (1+A8 d p.2.2.2.1)) 1:=by
    have q:=v
    rw [A8,Aa,Aa,Ah ka] at q ⊢
    exact (Le _).2.1 q
   have q:1+A8 d p.2.2.2.1≤a.fields.foldl (fun a p=>V3 a (1+A8 d p.2.2.2.1)) 1:=(Vi (fun p=>1+A8 d p.2.2.2.1) a.fields 1).2 p f
   exact U (by omega)
 have t:∀ (k m i:Nat),i+k=a.fields.length→k<m→(∃ j,i≤j∧∃ h:j<a.fields.length,Yw (Fe d) b a.fields[j]=false)→∃ w,En rec n a b m i=some w∧I9 (d+1) a b w:=by
  intro k
  induction k with
  | zero=>intro m i Q v ⟨j,K,F,_⟩;omega
  | succ k ih =>
   intro m i Q v ⟨j,K,F,G⟩
   obtain ⟨m,rfl⟩:∃ q,m=q+1:=⟨m-1,by omega⟩
   have o:i<a.fields.length:=by omega
   have f:=List.getElem_mem o
   have l:FM (AN n) n a.fields[i] b=some (Yw (Fe d) b a.fields[i]):=by
    rw [FM,NS n b.fields _ (by omega) (by omega),Ae,Yw]
    cases q:Gx b.fields a.fields[i].1 with
    | none=>rfl
    | some g=>rw [Ah (by rfl),Option.getD_some,hk _ f g (Z1 q).1];rfl
   rw [En,AC,Ag o,Ah rfl,AM o,Ae,l,Ae]
   cases c:Yw (Fe d) b a.fields[i] with
   | true =>
    rw [Ah rfl,Ah (AK (by omega))]
    refine ih m (i+1) (by omega) (by omega) ⟨j,?_,F,G⟩
    rcases Nat.lt_or_ge i j with z | z
    ·omega
    ·obtain rfl:i=j:=by omega
     exact absurd (c.symm.trans G) (by decide)
   | false =>
    rw [Ai (by decide),NS n b.fields _ (by omega) (by omega),Ae]
    rw [Yw] at c
    cases q:Gx b.fields a.fields[i].1 with
    | none =>
     obtain ⟨N,fx⟩:=Zw n a _ (by omega) sa fa hc f
     have sx:=Ty.small_field sa f
     have dx:=Ty.depth_field f
     obtain ⟨le,Z⟩:=ON n _ (by omega) sx fx N
     rw [Ah (by rfl),le,Ae]
     exact fin _ f _ (by omega) (L8 _ _ (Nat.le_refl _) (H7 8 12 _ sx fx sx.2.1).1) (fun _ g hg=>by rw [q] at hg;cases hg) fun _=>Re sx fx (by omega)
    | some g =>
     rw [q] at c
     have hg:=(Z1 q).1
     simp only [Option.isSome_some,Option.getD_some,Bool.not_true]
     obtain ⟨w,O,w1,C,w2,w3⟩:=hr _ f g hg c
     rw [Ai (by decide),O,Ae]
     exact fin _ f w (by omega) C (fun hf g' hg'=>by rw [q] at hg';cases hg';exact w2 hf) w3
 obtain ⟨p,f,u⟩:=h
 obtain ⟨j,H,e⟩:=List.mem_iff_getElem.1 f
 rw [AZ,Ai (by decide),Ac,Ai (by decide),Ac,Ai (by decide),Ac,Ai (by decide),Ac,Ai (by decide),Ag kb,Ah rfl]
 exact t a.fields.length n 0 (by omega) (by omega) ⟨j,Nat.zero_le _,H,by rw [e];simpa using u⟩
theorem Zdc:∀ (d n:Nat) (a b:Ty),a.small→b.small→a.Fine 8→b.Fine 8→(∀ m,3000000≤m→Bz m a=some 0)→a.depth≤d→d≤12→4000000000+d<n→Fe d a b=false→∃ w,CU n a b=some w∧I9 d a b w
 | 0,n,a,b,_,_,_,_,_,h,_,_,_=>by have:=a.depth_eq;omega
 | d+1,0,a,b,_,_,_,_,_,_,_,h,_=>absurd h (by omega)
 | d+1,n+1,a,b,sa,sb,fa,fb,hc,hd,hd2,hn,h=>by
  have z:=fa.good.own
  have C:=fb.good.own
  have u:=z.kind
  have G:=C.kind
  have f:=hc n (by omega)
  obtain ⟨le,F⟩:=ON n a (by omega) sa fa f
  rw [CU,I1]
  by_cases ak:a.kind=b.kind∨((a.kind=2∨a.kind=3)∧(b.kind=2∨b.kind=3))
  rotate_left
  ·have e:=Sl (fun q=>ak (.inl q)) (fun q=>ak (.inr q))
   rw [e,Ah (by rfl),le]
   refine ⟨_,rfl,Ur sa fa hd F ?_⟩
   rw [LN,Ai (fun q=>ak (.inr q)),Ah (fun q=>ak (.inl q))]
  rw [MM ak,Ai (by decide)]
  by_cases num:(a.kind=2∨a.kind=3)∧(b.kind=2∨b.kind=3)
  ·have:=Xj (CU n) n d a b sa sb fa.good fb (by omega) (.inl num) h
   rcases num.2 with q | q
   ·rw [Ag q,Ah rfl];exact this
   ·rw [Ac,Ai (by decide),Ag q,Ah rfl];exact this
  have s:a.kind=b.kind:=ak.resolve_right num
  rw [Af (show ¬ b.kind=2 by omega),Ai (by decide),Af (show ¬ b.kind=3 by omega),Ai (by decide)]
  by_cases k6:b.kind=6
  ·rw [Ag k6,Ah rfl]
   exact Xj (CU n) n d a b sa sb fa.good fb (by omega) (.inr ⟨s,.inl k6⟩) h
  rw [Af k6,Ai (by decide)]
  by_cases k7:b.kind=7
  ·rw [Ag k7]
   exact Xj (CU n) n d a b sa sb fa.good fb (by omega) (.inr ⟨s,.inr k7⟩) h
  rw [Af k7]
  by_cases u:b.kind=1
  ·rw [Fe,Ai num,Aa,Ah u] at h;cases h
  by_cases k4:b.kind=4
  ·exact ZfD _ n d a b fa.good fb.good (by omega) (by omega) k4 h
  by_cases k5:b.kind=5
  ·exact ZeQ _ n d a b fa.good (by omega) k5 h
  by_cases k8:b.kind=8
  ·refine ZgE _ n d a b sa fa fb.good (by omega) f hd (by omega) k8 h fun x y E D o=>?_
   have c:x∈a.elem:=by rw [E];simp
   have l:y∈b.elem:=by rw [D];simp
   have dx:=Ty.depth_elem c
   exact Zdc d n x y (Ty.small_elem sa c) (Ty.small_elem sb l) (Ty.Fine.elem fa c).up (Ty.Fine.elem fb l).up (fun m k=>(Xd m a x k sa fa (hc m k) c).1) (by omega) (by omega) (by omega) o
  have t:∀ p∈a.fields,∀ g∈b.fields,Fe d p.2.2.2.1 g.2.2.2.1=false→∃ w,CU n p.2.2.2.1 g.2.2.2.1=some w∧I9 d p.2.2.2.1 g.2.2.2.1 w:=fun p i g j r=>by
   have dx:=Ty.depth_field i
   exact Zdc d n _ _ (Ty.small_field sa i) (Ty.small_field sb j) (Ty.Fine.field fa i).up (Ty.Fine.field fb j).up (fun m k=>(Zw m a p k sa fa (hc m k) i).1) (by omega) (by omega) (by omega) r
  have v:∀ p∈a.fields,∀ g∈b.fields,AN n p.2.2.2.1 g.2.2.2.1=some (Fe d p.2.2.2.1 g.2.2.2.1):=fun p i g j=>by
   have dx:=Ty.depth_field i
   exact (X4 d n _ _ (Ty.small_field sa i) (Ty.small_field sb j) (A9 fa.good i) (A9 fb.good j) (by omega) (by omega)).1
  by_cases k9:b.kind=9
  ·exact ZiU _ n d a b sa sb fa fb.good (by omega) f hd (by omega) (by omega) k9 h t v
  ·exact Zix _ n d a b sa sb fa fb.good (by omega) f hd (by omega) (by omega) (by omega) h t v
def Md (rec:Ty→Option Int) (n:Nat)  (b:Int):Option Int :=
 if BM (b+1) then
  some (b+1)
 else none
def Ht (rec:Ty→Option Int) (n:Nat) (y:Ty):Nat→Int→Int→Option Int
 | 0,_,_=>none
 | m+1,g,b =>
  if decide (b<(y.fields.length:Int)) then
   (B1 y.fields b).bind fun q =>
   (rec q.2.2.2.1).bind fun h =>
   if BM (b+1) then
    (Ht rec n y m) ((if g<h then h else g)) (b+1)
   else none
  else
   Md rec n g
def NH (rec:Ty→Option Int) (n:Nat) (g:Ty) (b:Int):Option Int :=
 Ht rec n g n b 0
def Is (rec:Ty→Option Int) (n:Nat) (q:Ty):Nat→Int→Int→Option Int
 | 0,_,_=>none
 | m+1,g,b =>
  if decide (b<(q.elem.length:Int)) then
   (B1 q.elem b).bind fun y =>
   (rec y).bind fun h =>
   if BM (b+1) then
    (Is rec n q m) ((if g<h then h else g)) (b+1)
   else none
  else
   NH rec n q g
def Pi (rec:Ty→Option Int) (n:Nat) (b:Ty):Option Int :=
 Is rec n b n 0 0
def Jg:Nat→Ty→Option Int
 | 0,_=>none
 | n+1,b=>Pi (Jg n) n b
def R9 (w0:World) (F:Ty→Option Int):Prop:=∀ (B:Am) (Rw:Aq) (L:Ar) (b:Ty) (r:Int),F b=some r→ACalls Tryz.prog w0 40 [.agg (b.cs)] ⟨B,Rw,L⟩ fun x st=>x=Ak r∧st=⟨B,Rw,L⟩
theorem Yk (w0:World) (rec:Ty→Option Int) (ih:R9 w0 rec) (n:Nat):R9 w0 (Pi rec n):=by
 intro B Rw L a0 r h
 rw [Pi] at h
 refine hd [.tmp 2] Tryz.func40 Tryz.ntmps40 fun M0 W0 q o l b v k hs=>?_
 simp only [AG]
 refine rg [1] hs ?_
 refine rg [1,3] hs ?_
 refine AA (fun e st=>∃ (c:Int),Ck e st B Rw L [(1,true,.box B.length 0),(3,true,Ak c)] [a0.cs] [] (NH rec n a0 c=some r)) ?_ ?_
 ·intro K5 t
  refine rg [1,3,4] hs ?_
  apply Ao
  refine AL (fun m e st=>∃ (i:Int) (j:Int),Ck e st B Rw L [(1,true,.box B.length 0),(3,true,Ak i),(4,true,Ak j)] [a0.cs] [] (Is rec n a0 m i j=some r)) n ⟨0,0,([]),Rw,ef hs,ef hs,k,h⟩ ?_
  rintro ml7 e st ⟨i,j,Xl7,Rl7,rfl,rfl,k,h⟩ Ul7 Vl7
  cases ml7 with
  | zero=>cases h
  | succ ml7 =>
  rw [Is] at h
  exact go (tg (a:=([1,3,4,10],([1,3,4],[1,3,4],[1,3,4],()),[1,3],()))) h hs q o l b k (q1 ih) (q2 t (fun e s=>Vl7 ml7 e s (Nat.lt_succ_self _)))
 ·clear h;rintro e st ⟨c,Xk4,Rk4,rfl,rfl,k,h⟩
  rw [NH] at h
  refine td q o l b k ?_
  refine AA (fun e st=>∃ (g:Int),Ck e st B Rw L [(3,true,Ak g)] [a0.cs] [] (Md rec n g=some r)) ?_ ?_
  ·intro K17 p
   refine rg [1,3,5] hs ?_
   apply Ao
   refine AL (fun m e st=>∃ (d:Int) (f:Int),Ck e st B Rw L [(1,true,.box B.length 0),(3,true,Ak d),(5,true,Ak f)] [a0.cs] [] (Ht rec n a0 m d f=some r)) n ⟨c,0,([]),Rk4,ef hs,ef hs,k,h⟩ ?_
   rintro ml19 e st ⟨d,f,Xl19,Rl19,rfl,rfl,k,h⟩ Ul19 Vl19
   cases ml19 with
   | zero=>cases h
   | succ ml19 =>
   rw [Ht] at h
   exact go (tg (a:=([1,3,5,25],([1,3,5],[1,3,5],[1,3,5],()),[3],()))) h hs q o l b k (q1 ih) (q2 p (fun e s=>Vl19 ml19 e s (Nat.lt_succ_self _)))
  ·clear h;rintro e st ⟨g,Xk16,Rk16,rfl,rfl,k,h⟩
   rw [Md] at h
   refine td q o l b k ?_
   obtain ⟨u,h⟩:=Au h
   refine rg [2] hs ?_
   exact rt h hs b k
theorem VN (w0:World):∀ n:Nat,R9 w0 (Jg n)
 | 0=>fun _ _ _ _ _ h=>(nomatch h)
 | n+1=>Yk w0 (Jg n) (VN w0 n) n
def QL (rec:Ty→Option Int) (n:Nat)  (b:Int):Option Int :=
 some (b)
def IG (rec:Ty→Option Int) (n:Nat) (y:Ty):Nat→Int→Int→Option Int
 | 0,_,_=>none
 | m+1,g,b =>
  if decide (b<(y.fields.length:Int)) then
   (B1 y.fields b).bind fun q =>
   (rec q.2.2.2.1).bind fun h =>
   if BM (g+h) then
    if BM (b+1) then
     (IG rec n y m) (g+h) (b+1)
    else none
   else none
  else
   QL rec n g
def SA (rec:Ty→Option Int) (n:Nat) (g:Ty) (b:Int):Option Int :=
 IG rec n g n b 0
def Jr (rec:Ty→Option Int) (n:Nat) (q:Ty):Nat→Int→Int→Option Int
 | 0,_,_=>none
 | m+1,g,b =>
  if decide (b<(q.elem.length:Int)) then
   (B1 q.elem b).bind fun y =>
   (rec y).bind fun h =>
   if BM (g+h) then
    if BM (b+1) then
     (Jr rec n q m) (g+h) (b+1)
    else none
   else none
  else
   SA rec n q g
def Q8 (rec:Ty→Option Int) (n:Nat) (b:Ty):Option Int :=
 Jr rec n b n 1 0
def Kx:Nat→Ty→Option Int
 | 0,_=>none
 | n+1,b=>Q8 (Kx n) n b
def U6 (w0:World) (F:Ty→Option Int):Prop:=∀ (B:Am) (Rw:Aq) (L:Ar) (b:Ty) (r:Int),F b=some r→ACalls Tryz.prog w0 41 [.agg (b.cs)] ⟨B,Rw,L⟩ fun x st=>x=Ak r∧st=⟨B,Rw,L⟩
theorem Zaw (w0:World) (rec:Ty→Option Int) (ih:U6 w0 rec) (n:Nat):U6 w0 (Q8 rec n):=by
 intro B Rw L a0 r h
 rw [Q8] at h
 refine hd [.tmp 2] Tryz.func41 Tryz.ntmps41 fun M0 W0 q l o b u k hs=>?_
 simp only [AG]
 refine rg [1] hs ?_
 refine rg [1,3] hs ?_
 refine AA (fun e st=>∃ (c:Int),Ck e st B Rw L [(1,true,.box B.length 0),(3,true,Ak c)] [a0.cs] [] (SA rec n a0 c=some r)) ?_ ?_
 ·intro K5 t
  refine rg [1,3,4] hs ?_
  apply Ao
  refine AL (fun m e st=>∃ (j:Int) (i:Int),Ck e st B Rw L [(1,true,.box B.length 0),(3,true,Ak j),(4,true,Ak i)] [a0.cs] [] (Jr rec n a0 m j i=some r)) n ⟨1,0,([]),Rw,ef hs,ef hs,k,h⟩ ?_
  rintro ml7 e st ⟨j,i,Xl7,Rl7,rfl,rfl,k,h⟩ Ul7 Vl7
  cases ml7 with
  | zero=>cases h
  | succ ml7 =>
  rw [Jr] at h
  exact go (tg (a:=([1,3,4,10],([1,3,4],[1,3,4],[1,3,4],()),[1,3],()))) h hs q l o b k (q1 ih) (q2 t (fun e s=>Vl7 ml7 e s (Nat.lt_succ_self _)))
 ·clear h;rintro e st ⟨c,Xk4,Rk4,rfl,rfl,k,h⟩
  rw [SA] at h
  refine td q l o b k ?_
  refine AA (fun e st=>∃ (d:Int),Ck e st B Rw L [(3,true,Ak d)] [a0.cs] [] (QL rec n d=some r)) ?_ ?_
  ·intro K18 p
   refine rg [1,3,5] hs ?_
   apply Ao
   refine AL (fun m e st=>∃ (f:Int) (g:Int),Ck e st B Rw L [(1,true,.box B.length 0),(3,true,Ak f),(5,true,Ak g)] [a0.cs] [] (IG rec n a0 m f g=some r)) n ⟨c,0,([]),Rk4,ef hs,ef hs,k,h⟩ ?_
   rintro ml20 e st ⟨f,g,Xl20,Rl20,rfl,rfl,k,h⟩ Ul20 Vl20
   cases ml20 with
   | zero=>cases h
   | succ ml20 =>
   rw [IG] at h
   exact go (tg (a:=([1,3,5,25],([1,3,5],[1,3,5],[1,3,5],()),[3],()))) h hs q l o b k (q1 ih) (q2 p (fun e s=>Vl20 ml20 e s (Nat.lt_succ_self _)))
  ·clear h;rintro e st ⟨d,Xk17,Rk17,rfl,rfl,k,h⟩
   rw [QL] at h
   refine td q l o b k ?_
   refine rg [2] hs ?_
   exact rt h hs b k
theorem W7 (w0:World):∀ n:Nat,U6 w0 (Kx n)
 | 0=>fun _ _ _ _ _ h=>(nomatch h)
 | n+1=>Zaw w0 (Kx n) (W7 w0 n) n
def IJ (n:Nat) (b:Ty):Option Bool :=
 (Jg n b).bind fun h =>
 if decide (h≤10) then
  (Kx n b).bind fun g =>
  some (decide (g≤60))
 else
  some (false)
theorem NT (w0:World) (n:Nat) (B:Am) (Rw:Aq) (L:Ar) (a0:Ty) (r:Bool) (h:IJ n a0=some r) :
  ACalls Tryz.prog w0 9 [.agg (a0.cs)] ⟨B,Rw,L⟩ fun x st=>x = .val (.bool r)∧st=⟨B,Rw,L⟩:=by
 rw [IJ] at h
 refine hd [.tmp 2] Tryz.func9 Tryz.ntmps9 fun M0 W0 e d c b g f hs=>?_
 simp only [AG]
 exact go (tg (a:=([1],([2],()),[2],()))) h hs e d c b f (q2 (VN w0 n) (W7 w0 n)) trivial
theorem Xv:∀ (l:List Vl) (v:Vl),v∈l→v.bulk≤Jl l
 | [],_,h=>by simp at h
 | a::r,v,h=>by
  rcases List.mem_cons.1 h with rfl | h
  ·simp [Jl]
  ·have:=Xv r v h
   simp [Jl];omega
theorem W8:∀ (l:List ByteArray) (v:ByteArray),v∈l→v.size+1≤PX l
 | [],_,h=>by simp at h
 | a::r,v,h=>by
  rcases List.mem_cons.1 h with rfl | h
  ·simp [PX]
  ·have:=W8 r v h
   simp [PX];omega
theorem WU:∀ l:List ByteArray,l.length≤PX l
 | []=>Nat.le_refl _
 | v::r=>by have:=WU r;simp [PX];omega
mutual
theorem Vl.size_bulk:∀ v:Vl,v.size≤v.bulk
 | .mk _ _ _ _ l f=>by have:=QK l;have:=Vn f;simp only [Vl.size,Vl.bulk];omega
theorem QK:∀ l:List Vl,CJ l≤Jl l
 | []=>Nat.le_refl _
 | v::r=>by have:=v.size_bulk;have:=QK r;simp only [CJ,Jl];omega
theorem Vn:∀ l:List (ByteArray × Vl),Bi l≤Qo l
 | []=>Nat.le_refl _
 | (_,v)::r=>by have:=v.size_bulk;have:=Vn r;simp only [Bi,Qo];omega
end
theorem ZcF (l:List Vl):l.length≤Jl l:=Nat.le_trans (Pl l) (QK l)
mutual
theorem Ty.size_bulk:∀ t:Ty,t.size≤t.bulk
 | .mk _ _ _ _ _ l f=>by have:=VC l;have:=Ti f;simp only [Ty.size,Ty.bulk];omega
theorem VC:∀ l:List Ty,GO l≤Qv l
 | []=>Nat.le_refl _
 | v::r=>by have:=v.size_bulk;have:=VC r;simp only [GO,Qv];omega
theorem Ti:∀ l:List TF,Dp l≤ND l
 | []=>Nat.le_refl _
 | (_,_,_,v,_)::r=>by have:=v.size_bulk;have:=Ti r;simp only [Dp,ND];omega
end
mutual
theorem Vl.ok_bulk:∀ v:Vl,v.bulk≤1048576→v.ok
 | .mk _ _ _ t l f,h=>by
  simp only [Vl.bulk] at h
  exact ⟨by omega,Zq l (by omega),YS f (by omega)⟩
theorem Zq:∀ l:List Vl,Jl l≤1048576→ZcG l
 | [],_=>trivial
 | v::r,h=>by
  simp only [Jl] at h
  exact ⟨v.ok_bulk (by omega),Zq r (by omega)⟩
theorem YS:∀ l:List (ByteArray × Vl),Qo l≤1048576→ZcV l
 | [],_=>trivial
 | (_,v)::r,h=>by
  simp only [Qo] at h
  exact ⟨by omega,v.ok_bulk (by omega),YS r (by omega)⟩
end
theorem Vl.small_bulk (v:Vl) (h:v.bulk≤1048575):v.small:=by
 have:=v.size_bulk
 have:=v.depth_size
 exact ⟨by omega,by omega,v.ok_bulk (by omega)⟩
mutual
theorem Ty.ok_bulk:∀ t:Ty,t.bulk≤1048576→t.ok
 | .mk _ _ _ _ w l f,h=>by
  simp only [Ty.bulk] at h
  have:=WU w
  exact ⟨by omega,fun x a=>by have:=W8 w x a;omega,Zd l (by omega),XN f (by omega)⟩
theorem Zd:∀ l:List Ty,Qv l≤1048576→ZeN l
 | [],_=>trivial
 | v::r,h=>by
  simp only [Qv] at h
  exact ⟨v.ok_bulk (by omega),Zd r (by omega)⟩
theorem XN:∀ l:List TF,ND l≤1048576→YM l
 | [],_=>trivial
 | (_,n,_,v,d)::r,h=>by
  simp only [ND] at h
  have:=ZcF d
  have b:=v.size_bulk
  have:=v.size_pos
  exact ⟨⟨by omega,v.ok_bulk (by omega),by omega,fun x a=>x.small_bulk (by have:=Xv d x a;omega)⟩,XN r (by omega)⟩
end
theorem Ty.small_of {t:Ty} (h:t.bulk≤1048576) (h1:t.size≤200) (h2:t.depth≤12):t.small:=⟨h1,h2,t.ok_bulk h⟩
theorem W3 (rec:Ty→Option Int) (n:Nat) (t:Ty) (hr:∀ p∈t.fields,rec p.2.2.2.1=some (p.2.2.2.1.size:Int)) (hl:t.fields.length≤1000000000):∀ (k m i c:Nat),i+k=t.fields.length→k<m→c+Dp (t.fields.drop i)≤1000000000 →
  IG rec n t m (c:Int) i=some ((c+Dp (t.fields.drop i):Nat):Int)
 | k,0,i,c,_,h,_=>absurd h (Nat.not_lt_zero _)
 | 0,m+1,i,c,hi,_,_=>by
  rw [IG,AC,Af (show ¬ i<t.fields.length by omega),List.drop_eq_nil_of_le (by omega)]
  rfl
 | k+1,m+1,i,c,hi,hm,hc=>by
  have a:i<t.fields.length:=by omega
  rw [PS _ _ a] at hc
  rw [IG,AC,Ag a]
  rw [Ah rfl,AM a,Ae,hr _ (List.getElem_mem a),Ae]
  rw [Ah (by unfold BM;omega),Ah (AK (by omega)),PS _ _ a,←Nat.add_assoc]
  exact W3 rec n t hr hl k m (i+1) (c+t.fields[i].2.2.2.1.size) (by omega) (by omega) (by omega)
theorem Zn (rec:Ty→Option Int) (n:Nat) (t:Ty) (hs:t.size≤1000000000) (hn:t.fields.length<n) (hr:∀ x∈t.elem,rec x=some (x.size:Int)) (hr2:∀ p∈t.fields,rec p.2.2.2.1=some (p.2.2.2.1.size:Int)):∀ (k m i c:Nat),i+k=t.elem.length→k<m→c+GO (t.elem.drop i)+Dp t.fields≤1000000000 →
  Jr rec n t m (c:Int) i=some ((c+GO (t.elem.drop i)+Dp t.fields:Nat):Int)
 | k,0,i,c,_,h,_=>absurd h (Nat.not_lt_zero _)
 | 0,m+1,i,c,hi,_,hc=>by
  have:=t.lens
  rw [Jr,AC,Af (show ¬ i<t.elem.length by omega),List.drop_eq_nil_of_le (by omega)]
  have:=W3 rec n t hr2 (by omega) t.fields.length n 0 c (by omega) hn (by rw [List.drop_zero];omega)
  rw [List.drop_zero] at this
  exact this
 | k+1,m+1,i,c,hi,hm,hc=>by
  have:=t.lens
  have a:i<t.elem.length:=by omega
  rw [Vm _ _ a] at hc
  rw [Jr,AC,Ag a]
  rw [Ah rfl,AM a,Ae,hr _ (List.getElem_mem a),Ae]
  rw [Ah (by unfold BM;omega),Ah (AK (by omega)),Vm _ _ a,←Nat.add_assoc]
  exact Zn rec n t hs hn hr hr2 k m (i+1) (c+t.elem[i].size) (by omega) (by omega) (by omega)
theorem UP:∀ (n:Nat) (t:Ty),t.size<n→t.size≤1000000000→Kx n t=some (t.size:Int)
 | 0,t,h,_=>absurd h (Nat.not_lt_zero _)
 | n+1,t,h,hs=>by
  have d:=t.lens
  have c:=t.size_eq
  rw [Kx,Q8]
  have:=Zn (Kx n) n t hs (by omega) (fun x a=>UP n x (by have:=t.elem_size x a;omega) (by have:=t.elem_size x a;omega)) (fun p b=>UP n _ (by have:=t.field_size p b;omega) (by have:=t.field_size p b;omega)) t.elem.length n 0 1 (by omega) (by omega) (by rw [List.drop_zero];omega)
  rw [List.drop_zero,←c] at this
  exact this
theorem TP (l:List Ty) (i:Nat) (h:i<l.length):EX (l.drop i)=Max.max l[i].depth (EX (l.drop (i+1))):=by rw [List.drop_eq_getElem_cons h,EX]
theorem RQ (l:List TF) (i:Nat) (h:i<l.length):D7 (l.drop i)=Max.max l[i].2.2.2.1.depth (D7 (l.drop (i+1))):=by
 rw [List.drop_eq_getElem_cons h];rfl
theorem ZdP (a b:Nat):(if (a:Int)<(b:Int) then (b:Int) else (a:Int))=((Max.max a b:Nat):Int):=by
 split<;>omega
theorem VA (rec:Ty→Option Int) (n:Nat) (t:Ty) (hr:∀ p∈t.fields,rec p.2.2.2.1=some (p.2.2.2.1.depth:Int)) (hl:t.fields.length≤1000000000):∀ (k m i c:Nat),i+k=t.fields.length→k<m→Max.max c (D7 (t.fields.drop i))≤1000000000 →
  Ht rec n t m (c:Int) i=some ((Max.max c (D7 (t.fields.drop i))+1:Nat):Int)
 | k,0,i,c,_,h,_=>absurd h (Nat.not_lt_zero _)
 | 0,m+1,i,c,hi,_,hc=>by
  rw [Ht,AC,Af (show ¬ i<t.fields.length by omega),List.drop_eq_nil_of_le (by omega),Ai (by decide),Md,Ah (by unfold BM;omega)]
  simp [D7]
 | k+1,m+1,i,c,hi,hm,hc=>by
  have a:i<t.fields.length:=by omega
  rw [RQ _ _ a] at hc
  rw [Ht,AC,Ag a]
  rw [Ah rfl,AM a,Ae,hr _ (List.getElem_mem a),Ae]
  rw [Ah (AK (by omega)),RQ _ _ a,ZdP,←Nat.max_assoc]
  exact VA rec n t hr hl k m (i+1) _ (by omega) (by omega) (by omega)
theorem WV (rec:Ty→Option Int) (n:Nat) (t:Ty) (hs:t.size≤1000000000) (hn:t.fields.length<n) (hr:∀ x∈t.elem,rec x=some (x.depth:Int)) (hr2:∀ p∈t.fields,rec p.2.2.2.1=some (p.2.2.2.1.depth:Int)):∀ (k m i c:Nat),i+k=t.elem.length→k<m→Max.max (Max.max c (EX (t.elem.drop i))) (D7 t.fields)≤1000000000 →
  Is rec n t m (c:Int) i=some ((Max.max (Max.max c (EX (t.elem.drop i))) (D7 t.fields)+1:Nat):Int)
 | k,0,i,c,_,h,_=>absurd h (Nat.not_lt_zero _)
 | 0,m+1,i,c,hi,_,hc=>by
  have:=t.lens
  rw [Is,AC,Af (show ¬ i<t.elem.length by omega),Ai (by decide)]
  rw [List.drop_eq_nil_of_le (by omega)] at hc ⊢
  have h:=VA rec n t hr2 (by omega) t.fields.length n 0 c (by omega) hn (by rw [List.drop_zero];simp only [EX] at hc;omega)
  rw [List.drop_zero] at h
  rw [NH]
  refine h.trans ?_
  simp only [EX,Nat.max_zero]
 | k+1,m+1,i,c,hi,hm,hc=>by
  have:=t.lens
  have a:i<t.elem.length:=by omega
  rw [TP _ _ a] at hc
  rw [Is,AC,Ag a]
  rw [Ah rfl,AM a,Ae,hr _ (List.getElem_mem a),Ae]
  rw [Ah (AK (by omega)),TP _ _ a,ZdP,←Nat.max_assoc]
  exact WV rec n t hs hn hr hr2 k m (i+1) _ (by omega) (by omega) (by omega)
mutual
theorem Ty.depth_size:∀ v:Ty,v.depth≤v.size
 | .mk _ _ _ _ _ l f=>by have:=TQ l;have:=RG f;simp only [Ty.depth,Ty.size];omega
theorem TQ:∀ l:List Ty,EX l≤GO l
 | []=>Nat.le_refl _
 | v::r=>by have:=v.depth_size;have:=TQ r;simp only [EX,GO];omega
theorem RG:∀ l:List TF,D7 l≤Dp l
 | []=>Nat.le_refl _
 | (_,_,_,v,_)::r=>by have:=v.depth_size;have:=RG r;simp only [D7,Dp];omega
end
theorem RZ:∀ (n:Nat) (t:Ty),t.size<n→t.size≤1000000000→Jg n t=some (t.depth:Int)
 | 0,t,h,_=>absurd h (Nat.not_lt_zero _)
 | n+1,t,h,hs=>by
  have d:=t.lens
  have c:=t.depth_eq
  have hd:=t.depth_size
  rw [Jg,Pi]
  have:=WV (Jg n) n t hs (by omega) (fun x a=>RZ n x (by have:=t.elem_size x a;omega) (by have:=t.elem_size x a;omega)) (fun p b=>RZ n _ (by have:=t.field_size p b;omega) (by have:=t.field_size p b;omega)) t.elem.length n 0 0 (by omega) (by omega) (by rw [List.drop_zero];omega)
  rw [List.drop_zero,Nat.zero_max,Nat.add_comm,←c] at this
  exact this
theorem Pj (n:Nat) (t:Ty) (hn:t.size<n) (hs:t.size≤1000000000):IJ n t=some (decide (t.depth≤10∧t.size≤60)):=by
 rw [IJ,RZ n t hn hs,Ae]
 by_cases h:t.depth≤10
 ·rw [Ag (show (t.depth:Int)≤10 by omega),Ah rfl,UP n t hn hs,Ae]
  congr 1
  rw [decide_eq_decide]
  omega
 ·rw [Af (show ¬ (t.depth:Int)≤10 by omega),Ai (by decide)]
  congr 1
  exact (Af (by omega)).symm
def CG (h:ByteArray) (g:Int) (b:List (ByteArray × Int)):Option ((List (ByteArray × Int))) :=
 if (b.length+1)*24≤140737488355328∧b.length+1≤4611686018427387904 then
  some (b++([(h,g)]))
 else none
theorem Dl (w0:World) (B:Am) (Rw:Aq) (L:Ar) (a0:ByteArray) (a1:Int) (la2:Nat) (a2:List (ByteArray × Int)) (oa2:Ev.Own) (hla2:B[la2]? = some [.list (a2.map Nn) oa2]) (hGa2:Owns Rw Rw [(2,a2.length,oa2)] oa2) (r:(List (ByteArray × Int))) (h:CG a0 a1 a2=some r) :
  ACalls Tryz.prog w0 106 [.val (.string a0),Ak a1,.box la2 0] ⟨B,Rw,L⟩ fun x st=>x = .tup []∧∃ (R1:Aq) (o1:Ev.Own),st=⟨(B.set la2 [.list (r.map Nn) o1]),R1,L⟩∧Owns Rw R1 [(2,r.length,o1)] oa2:=by
 rw [CG] at h
 refine ACalls.finG (FC (rs:=[]) Tryz.func106 rfl rfl Tryz.ntmps106 (Bl Tryz.func106 rfl (by decide)) (Nat.le_of_ble_eq_true rfl) ?_)
 intro M0 W0 k j i b l
 dsimp only at k j i b l
 simp only [AG]
 have c:=hGa2
 have hs:=YB
 have e:=(Aj.1 hla2).1
 obtain ⟨d,h⟩:=Au h
 obtain ⟨f,g,c,a⟩:=c.append (P:=Tryz.prog) ZjO (by rw [Zgm];rfl) (by decide) 1 d.1 d.2
 replace a:=fun (ys:List AV) B L f=>a (a2.map Nn) ys B L f Kr
 replace a:=fun (y:AV) B L f=>a [y] B L f Kr ev
 try simp only [List.mem_singleton,List.mem_cons,List.not_mem_nil,or_false,forall_eq_or_imp,forall_eq,List.map_append,List.map_cons,List.map_nil,Hg,G6,He,Hz,Ha,GK,Fh,Fa,G2,Eg,Eh,Fp,Fq,E9] at a
 apply Ax 1 []
 rw [Ap];simp +decide only [go_sem,Nat.reduceAdd,Aw hla2,a]
 (repeat' with_reducible apply Ad)<;>first | exact cl | skip
 have hgt:=Option.some.inj h;subst hgt
 have m:=c.unders
 simp only [List.mem_cons,List.not_mem_nil,or_false,forall_eq_or_imp,forall_eq] at m
 refine Zcs c (Az (GB b c.len) ow) Lj ev ⟨?_,_,_,?_,(c.sub (List.sublist_append_left [_] _)).len1 Kr⟩
 all_goals first | rfl | (simp +decide only [go_sem,Nat.reduceAdd,Aw hla2,a];done) | (simp +decide only [go_sem,Nat.reduceAdd,Vl.cs,Ty.cs,Aw hla2,a];done)
def Hl (y:Bool) (b:List (ByteArray × Int)) (g:ByteArray):Option ((List (ByteArray × Int))) :=
 if y then
  (CG g 6 b).bind fun h =>
  some (h)
 else
  (CG g 7 b).bind fun q =>
  some (q)
theorem LX (w0:World) (B:Am) (Rw:Aq) (L:Ar) (a0:Bool) (la1:Nat) (a1:List (ByteArray × Int)) (oa1:Ev.Own) (hla1:B[la1]? = some [.list (a1.map Nn) oa1]) (hGa1:Owns Rw Rw [(2,a1.length,oa1)] oa1) (lb1:Nat) (hlb1:B[lb1]? = some [.clo 106 [.box la1 0]]) (la2:Nat) (a2:ByteArray) (hla2:B[la2]? = some ([.val (.string a2)])) (r:(List (ByteArray × Int))) (h:Hl a0 a1 a2=some r) :
  ACalls Tryz.prog w0 185 [.val (.bool a0),.box lb1 0,.box la2 0] ⟨B,Rw,L⟩ fun x st=>x = .tup []∧∃ (R1:Aq) (o1:Ev.Own),st=⟨(B.set la1 [.list (r.map Nn) o1]),R1,L⟩∧Owns Rw R1 [(2,r.length,o1)] oa1:=by
 rw [Hl] at h
 refine ACalls.finG (FC (rs:=[]) Tryz.func185 rfl rfl Tryz.ntmps185 (Bl Tryz.func185 rfl (by decide)) (Nat.le_of_ble_eq_true rfl) ?_)
 intro M0 W0 s p l c u
 dsimp only at s p l c u
 simp only [AG]
 have d:=hGa1
 have hs:=YB
 have j:=(Aj.1 hla1).1
 have i:=(Aj.1 hlb1).1
 have a:la1≠lb1:=fun q=>by have k:=hla1;rw [q,hlb1] at k;cases k
 have g:=(Aj.1 hla2).1
 have hs:=Ad (Aw hla1) hs
 have hs:=Ad (Aw hlb1) hs
 have hs:=Ad (DL hlb1 a) hs
 have hs:=Ad (Aw hla2) hs
 refine rg [1,2,4] hs ?_
 refine BN h hs ?_ ?_<;>intro hs h
 ·have b:=hs.1
  obtain ⟨y,n,h⟩:=bind_some h
  apply Ax 2 []
  rw [Ap];simp +decide only [go_sem,Nat.reduceAdd,Aw hla1,Aw hlb1,DL hlb1 a,Aw hla2,b]
  (repeat' apply Ad)<;>first | (refine BF _ (Dl w0 _ _ _ a2 6 la1 a1 oa1 (ef hs) d.enter _ n) (hv hs) ?_;rintro _ _ ⟨rfl,Rg4,v,rfl,f⟩) | exact cl
  have d:=d.call f
  rw [Ap];simp +decide only [go_sem,Nat.reduceAdd,Aw hla1,Aw hlb1,DL hlb1 a,Aw hla2,b]
  (repeat' with_reducible apply Ad)<;>first | exact cl | skip
  have hgt:=Option.some.inj h;subst hgt
  have o:=d.unders
  simp only [List.mem_cons,List.not_mem_nil,or_false,forall_eq_or_imp,forall_eq] at o
  refine Zcs d (Az (GB c d.len) ow) Lj ev ⟨?_,_,_,?_,(d.sub (List.sublist_append_left [_] _)).len1 Kr⟩
  all_goals first | rfl | (simp +decide only [go_sem,Nat.reduceAdd,Aw hla1,Aw hlb1,DL hlb1 a,Aw hla2,b];done) | (simp +decide only [go_sem,Nat.reduceAdd,Vl.cs,Ty.cs,Aw hla1,Aw hlb1,DL hlb1 a,Aw hla2,b];done)
 have b:=hs.1
 obtain ⟨w,m,h⟩:=bind_some h
 apply Ax 2 []
 rw [Ap];simp +decide only [go_sem,Nat.reduceAdd,Aw hla1,Aw hlb1,DL hlb1 a,Aw hla2,b]
 (repeat' apply Ad)<;>first | (refine BF _ (Dl w0 _ _ _ a2 7 la1 a1 oa1 (ef hs) d.enter _ m) (hv hs) ?_;rintro _ _ ⟨rfl,Rg7,t,rfl,e⟩) | exact cl
 have d:=d.call e
 rw [Ap];simp +decide only [go_sem,Nat.reduceAdd,Aw hla1,Aw hlb1,DL hlb1 a,Aw hla2,b]
 (repeat' with_reducible apply Ad)<;>first | exact cl | skip
 have hgt:=Option.some.inj h;subst hgt
 have o:=d.unders
 simp only [List.mem_cons,List.not_mem_nil,or_false,forall_eq_or_imp,forall_eq] at o
 refine Zcs d (Az (GB c d.len) ow) Lj ev ⟨?_,_,_,?_,(d.sub (List.sublist_append_left [_] _)).len1 Kr⟩
 all_goals first | rfl | (simp +decide only [go_sem,Nat.reduceAdd,Aw hla1,Aw hlb1,DL hlb1 a,Aw hla2,b];done) | (simp +decide only [go_sem,Nat.reduceAdd,Vl.cs,Ty.cs,Aw hla1,Aw hlb1,DL hlb1 a,Aw hla2,b];done)
def DT (g:ByteArray) (h:Ty) (b:ByteArray):Option ByteArray :=
 if decide (h.kind=10) then
  if b.size+((⟨#[63]⟩:ByteArray)).size≤9223372036854775807 then
   if (b++((⟨#[63]⟩:ByteArray))).size+g.size≤9223372036854775807 then
    some ((b++((⟨#[63]⟩:ByteArray)))++g)
   else none
  else none
 else
  if Eb b (⟨#[]⟩:ByteArray) then
   some (g)
  else
   if b.size+((⟨#[46]⟩:ByteArray)).size≤9223372036854775807 then
    if (b++((⟨#[46]⟩:ByteArray))).size+g.size≤9223372036854775807 then
     some ((b++((⟨#[46]⟩:ByteArray)))++g)
    else none
   else none
theorem E7 (w0:World) (B:Am) (Rw:Aq) (L:Ar) (a0:ByteArray) (la1:Nat) (a1:Ty) (hla1:B[la1]? = some (a1.cs)) (la2:Nat) (a2:ByteArray) (hla2:B[la2]? = some ([.val (.string a2)])) (r:ByteArray) (h:DT a0 a1 a2=some r) :
  ACalls Tryz.prog w0 186 [.val (.string a0),.box la1 0,.box la2 0] ⟨B,Rw,L⟩ fun x st=>x = .val (.string r)∧st=⟨B,Rw,L⟩:=by
 rw [DT] at h
 refine hd [.tmp 4] Tryz.func186 Tryz.ntmps186 fun M0 W0 q p o a s m hs=>?_
 simp only [AG]
 have j:=(Aj.1 hla1).1
 have k:=(Aj.1 hla2).1
 have hs:=Ad (Aw hla1) hs
 have hs:=Ad (Aw hla2) hs
 refine rg [0,1,2] hs ?_
 apply An;intro K2 i
 apply Ao
 refine rg [0,2,5] hs ?_
 refine BN h hs ?_ ?_<;>intro hs h
 ·obtain ⟨l,h⟩:=Au h
  have d:=l
  try simp +decide only [go_sem] at d
  obtain ⟨n,h⟩:=Au h
  have f:=n
  try simp +decide only [go_sem] at f
  refine rg [4] hs ?_
  exact rt h hs a m
 refine rg [0,2,13] hs ?_
 refine BN h hs ?_ ?_<;>intro hs h
 ·refine rg [4] hs ?_
  exact rt h hs a m
 refine sk [0,2] hs i ?_
 clear i
 obtain ⟨e,h⟩:=Au h
 have c:=e
 try simp +decide only [go_sem] at c
 obtain ⟨g,h⟩:=Au h
 have b:=g
 try simp +decide only [go_sem] at b
 refine rg [4] hs ?_
 exact rt h hs a m
end Go.Proofs.YtmcnjijeocmkgaaGreatDoor
