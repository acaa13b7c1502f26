/-
  Part 7 of the proof: rules and walks that the claim's last text uses.
-/
import Derived.Test.YtmcnjijeocmkgaaGreatDoorLo6
set_option linter.unusedSimpArgs false
set_option linter.unusedVariables false
set_option maxRecDepth 100000
set_option maxHeartbeats 4000000
namespace Go.Proofs.YtmcnjijeocmkgaaGreatDoor
open Go Go.RowKit Go.Ev
theorem Vi (n:Nat) (l f:List Part) (hl:l.length≤1000000) (hn:l.length<n):CY n l f=some (NI l f):=by
 rw [CY,NI]
 by_cases h:f.length≤l.length
 ·have a:(l.take f.length).length=f.length:=by rw [List.length_take];omega
  rw [Ad,Ai rfl,Ai ⟨by decide,by omega,by omega⟩,ZcK n _ f a (by omega) (by omega),QD,Af,Ah h,Bool.true_and]
 ·rw [Ac,Aj (by decide),Ag h,Bool.false_and]
theorem Sz (n:Nat) (a b:List Part) (h:b.length≤a.length) (hl:b.length≤1000000):∀ (k m i:Nat),i+k=b.length→k<m→DV n a b m i=some (IU UN (a.drop i) (b.drop i))
 | k,0,i,_,h=>absurd h (Nat.not_lt_zero _)
 | 0,m+1,i,hi,_=>by
  rw [DV,AD,Ac,Aj (by decide),I2,V3 _ (by omega)]
 | k+1,m+1,i,hi,hm=>by
  have d:i<a.length:=by omega
  have c:i<b.length:=by omega
  have ih:=Sz n a b h hl k m (i+1) (by omega) (by omega)
  rw [DV,AD,Ah c,Ai rfl,AH d,Af,AH c,Af,Oc _ d c]
  show (if (!UN a[i] b[i])=true then _ else _)=_
  cases UN a[i] b[i] with
  | false=>rfl
  | true =>
   rw [Aj (by decide),Ai (AG (by omega)),Bool.true_and]
   exact ih
theorem Vt (n:Nat) (l f:List Part) (hl:f.length≤1000000) (hn:f.length<n):GW n l f=some (NI l f):=by
 rw [GW,NI]
 by_cases h:f.length≤l.length
 ·rw [Ac,Aj (by decide),Ah h,Bool.true_and]
  have:=Sz n l f h hl f.length n 0 (by omega) hn
  rw [List.drop_zero,List.drop_zero] at this
  exact this
 ·rw [Ad,Ai rfl,Ag h,Bool.false_and]
def Part.plain (p:Part):Prop:=p.kind=3→p.index=0∧p.name=⟨#[]⟩
theorem VU {p:Part} (h:pOk p=true):p.plain:=fun k=>by
 unfold pOk at h
 rw [Aa,Aa,Ai k,Bool.and_eq_true] at h
 exact ⟨of_decide_eq_true h.2,(P1 _ _).1 h.1⟩
theorem Tc (n:Nat) (a b:List Part) (h:a.length=b.length) (hl:a.length≤1000000):∀ (k m i:Nat),i+k=a.length→k<m→Be n a b (fun (x0:Part) (x1:Part)=>some (AY x0 x1)) m i=some (IU AY (a.drop i) (b.drop i))
 | k,0,i,_,h=>absurd h (Nat.not_lt_zero _)
 | 0,m+1,i,hi,_=>by
  rw [Be,AD,Ac,Aj (by decide),Eu,QN _ (by omega)]
 | k+1,m+1,i,hi,hm=>by
  have d:i<a.length:=by omega
  have c:i<b.length:=by omega
  have ih:=Tc n a b h hl k m (i+1) (by omega) (by omega)
  rw [Be,AD,Ah d,Ai rfl,AH d,Af,AH c,Af,Oc _ d c,Af]
  cases AY a[i] b[i] with
  | false=>rfl
  | true =>
   rw [Aj (by decide),Ai (AG (by omega)),Bool.true_and]
   exact ih
theorem YZ (f:Part→Part→Bool):∀ (a b:List Part) (k:Nat),a.length≤k∨b.length≤k→IU f (a.take k) (b.take k)=IU f a b
 | [],b,k,_=>by simp [IU]
 | x::a,[],k,_=>by rw [List.take_nil,NJ,NJ]
 | x::a,y::b,0,h=>by simp at h
 | x::a,y::b,k+1,h=>by
  rw [List.take_succ_cons,List.take_succ_cons,IU,IU,YZ f a b k (by simp only [List.length_cons] at h;omega)]
theorem ZcR (n:Nat) (a b:List Part) (hl:a.length≤1000000) (hn:a.length<n):Is n a b=some (IU AY a b):=by
 have f:∃ k:Nat,(if (b.length:Int)<(a.length:Int) then (b.length:Int) else (a.length:Int))=(k:Int)∧k≤a.length∧k≤b.length∧(a.length≤k∨b.length≤k):=by
  by_cases c:(b.length:Int)<(a.length:Int)
  ·rw [Ai c];exact ⟨b.length,rfl,by omega,by omega,by omega⟩
  ·rw [Aj c];exact ⟨a.length,rfl,by omega,by omega,by omega⟩
 obtain ⟨k,e,l,i,g⟩:=f
 have d:(k:Int).toNat=k:=rfl
 have j:(a.take k).length=k:=by rw [List.length_take];omega
 have h:(b.take k).length=k:=by rw [List.length_take];omega
 rw [Is,e,Ai ⟨by decide,by omega,by omega⟩,Ai ⟨by decide,by omega,by omega⟩,d,EK,Ad,Aj (by decide)]
 have:=Tc n (a.take k) (b.take k) (by omega) (by omega) k n 0 (by omega) (by omega)
 rw [List.drop_zero,List.drop_zero,YZ _ a b k g] at this
 have this:Be n (a.take k) (b.take k) (fun (x0:Part) (x1:Part)=>some (AY x0 x1)) n 0=_:=this
 rw [this,Af]
theorem Rk (n:Nat) (a b:List Part) (ha:∀ p∈a,p.plain) (hb:∀ p∈b,p.plain) (hl:a.length≤1000000):∀ (k m i:Nat),i+k=a.length→k<m→Ce n a b m i=some (IU AY (a.drop i) (b.drop i))
 | k,0,i,_,h=>absurd h (Nat.not_lt_zero _)
 | 0,m+1,i,hi,_=>by
  rw [Ce,AD,Ag (show ¬ i<a.length by omega),Bool.false_and,Aj (by decide),Il,QN _ (by omega)]
 | k+1,m+1,i,hi,hm=>by
  have c:i<a.length:=by omega
  rw [Ce,AD,AD,Ah c,Bool.true_and]
  by_cases hlt2:i<b.length
  rotate_left
  ·rw [Ag hlt2,Aj (by decide),Il,V3 _ (by omega)]
  have ih:=Rk n a b ha hb hl k m (i+1) (by omega) (by omega)
  have pa:=ha _ (List.getElem_mem c)
  have pb:=hb _ (List.getElem_mem hlt2)
  rw [Ah hlt2,Ai rfl,AH c,Af,AH hlt2,Af,Oc _ c hlt2]
  generalize IU AY (a.drop (i+1)) (b.drop (i+1))=R at ih ⊢
  have ih:Ce n a b m ((i:Int)+1)=some R:=ih
  generalize a[i]=x at pa ⊢
  generalize b[i]=y at pb ⊢
  rw [Ai (AG (by omega)),ih]
  show (if BV x=true then (if BV y=true then (if decide (x.kind=3)=true then (if ((!UN x y)&&false)=true then some false else some R) else (if ((!UN x y) && !(decide (y.kind=3)))=true then some false else some R)) else (if (!UN x y)=true then some false else some R)) else (some y).bind fun y=>(if (!UN x y)=true then some false else some R))=some (AY x y&&R)
  have l:AY x y=((UN x y||(decide (x.kind=3)&&decide (y.kind=2)))||(decide (x.kind=2)&&decide (y.kind=3))):=rfl
  have f:UN x y=true→x.kind=y.kind:=fun h=>by
   unfold UN at h
   rw [Bool.and_eq_true] at h
   exact of_decide_eq_true h.1
  have d:x.kind=3→y.kind=3→UN x y=true:=fun g e=>by
   obtain ⟨a1,a2⟩:=pa g
   obtain ⟨j,o⟩:=pb e
   unfold UN
   rw [g,e,a1,a2,j,o,YF];rfl
  rw [l,BV,BV,Af]
  by_cases c3:x.kind=3
  ·by_cases d3:y.kind=3
   ·rw [d c3 d3];simp [c3,d3]
   ·by_cases d2:y.kind=2
    ·simp [c3,d2]
    ·have:UN x y=false:=Bool.eq_false_iff.2 fun q=>d3 ((f q).symm.trans c3)
     simp [c3,d3,d2,this]
  ·by_cases c2:x.kind=2
   ·by_cases d3:y.kind=3
    ·simp [c2,d3]
    ·by_cases d2:y.kind=2
     ·cases UN x y<;>simp [c2,d2]
     ·have:UN x y=false:=Bool.eq_false_iff.2 fun q=>d2 ((f q).symm.trans c2)
      simp [c2,d3,d2,this]
   ·cases UN x y<;>simp [c3,c2]
theorem YP (n:Nat) (a b:List Part) (ha:∀ p∈a,p.plain) (hb:∀ p∈b,p.plain) (hl:a.length≤1000000) (hn:a.length<n):Lx n a b=some (IU AY a b):=by
 have:=Rk n a b ha hb hl a.length n 0 (by omega) hn
 rw [List.drop_zero,List.drop_zero] at this
 exact this
def OT (n:Nat) (f leaf:List Part) (s:ByteArray):Bool :=
 decide ((XW n s).2=0)&&(NI f (XW n s).1||(NI (XW n s).1 f&&IU AY ((XW n s).1.drop f.length) leaf))
theorem Yg {l f:List Part} (h:NI l f=true):f.length≤l.length:=by
 unfold NI at h
 rw [Bool.and_eq_true] at h
 exact of_decide_eq_true h.1
theorem Zgd (n:Nat) (hn:400≤n) (s:ByteArray) (f leaf:List Part) (hf:f.length≤16):DK n s f leaf=some (OT n f leaf s):=by
 obtain ⟨e,ok⟩:=SZ n (by omega) s
 have o1:=ok.1
 rw [DK,e,Af,OT]
 generalize XW n s=r at ok o1 ⊢
 by_cases c:r.2=0
 rotate_left
 ·rw [Ag c];rfl
 rw [Ah c,Ai rfl,Bool.true_and,Vi n _ _ (by omega) (by omega),Af,Vi n _ _ (by omega) (by omega),Af]
 cases NI f r.1 with
 | true=>rfl
 | false =>
  rw [Aj (by decide),Bool.false_or]
  cases h:NI r.1 f with
  | false=>rfl
  | true =>
   have:=Yg h
   have a:(f.length:Int).toNat=f.length:=rfl
   rw [Ai rfl,Ai ⟨by omega,by omega,by omega⟩,ZcR n _ _ (by rw [List.length_drop];omega) (by rw [List.length_drop];omega),Bool.true_and,Af]
theorem ZhU (n:Nat) (hn:1100≤n) (ss:List ByteArray) (hs:ss.length≤1000) (f leaf:List Part) (hf:f.length≤16):F8 n ss f leaf=some (ss.any (OT n f leaf)):=by
 rw [F8,WI n ss _ (OT n f leaf) (fun x _=>Zgd n (by omega) x f leaf hf) (by omega) (by omega),Af]
theorem Vr (n:Nat) (hn:1100≤n) (ss:List ByteArray) (hs:ss.length≤1000) (f leaf:List Part) (hf:f.length≤16) (hb:∀ p∈leaf,p.plain):∀ (k m i:Nat),i+k=ss.length→k<m→BG n ss f leaf m i=some ((ss.drop i).any (OT n f leaf))
 | k,0,i,_,h=>absurd h (Nat.not_lt_zero _)
 | 0,m+1,i,hi,_=>by
  rw [BG,AD,Ac,Aj (by decide),H9,List.drop_eq_nil_of_le (by omega)];rfl
 | k+1,m+1,i,hi,hm=>by
  have a:i<ss.length:=by omega
  obtain ⟨e,ok⟩:=SZ n (by omega) ss[i]
  have o1:=ok.1
  have ih:=Vr n hn ss hs f leaf hf hb k m (i+1) (by omega) (by omega)
  have b:Dz n (BG n ss f leaf m) i=some ((ss.drop (i+1)).any (OT n f leaf)):=by
   rw [Dz,Ai (AG (by omega))];exact ih
  rw [BG,AD,Ah a,Ai rfl,AH a,Af,e,Af,List.drop_eq_getElem_cons a,List.any_cons,b,OT]
  generalize XW n ss[i]=r at ok o1 ⊢
  generalize (ss.drop (i+1)).any (OT n f leaf)=R
  by_cases c:r.2=0
  rotate_left
  ·rw [Ag c];rfl
  rw [Ah c,Aj (by decide),Bool.true_and,Vt n _ _ (by omega) (by omega),Af,Vt n _ _ (by omega) (by omega),Af]
  cases NI f r.1 with
  | true=>rfl
  | false =>
   rw [Aj (by decide),Bool.false_or]
   cases h:NI r.1 f with
   | false=>rfl
   | true =>
    have:=Yg h
    have g:(f.length:Int).toNat=f.length:=rfl
    rw [Ai rfl,Ai ⟨by omega,by omega,by omega⟩,YP n _ _ (fun p d=>VU (ok.2 p (List.mem_of_mem_drop d)).2) hb (by rw [List.length_drop];omega) (by rw [List.length_drop];omega),Bool.true_and,Af]
    cases IU AY (r.1.drop f.length) leaf<;>rfl
theorem Za4 (n:Nat) (hn:1100≤n) (ss:List ByteArray) (hs:ss.length≤1000) (f leaf:List Part) (hf:f.length≤16) (hb:∀ p∈leaf,p.plain):I6 n ss f leaf=some (ss.any (OT n f leaf)):=by
 have:=Vr n hn ss hs f leaf hf hb ss.length n 0 (by omega) (by omega)
 rw [List.drop_zero] at this
 exact this
theorem Ye (n:Nat) (l:List Part) (hp:∀ p∈l,pOk p=true) (hl:l.length≤20):∀ (k m i:Nat) (s:ByteArray),i+k=l.length→k<m→s.size≤40*i→i≤s.size→1≤l.length→∃ r,HA n l m s i=some r
 | k,0,i,_,_,h,_,_,_=>absurd h (Nat.not_lt_zero _)
 | 0,m+1,i,s,hi,_,h,h2,h1=>by
  rw [HA,AD,Ac,Aj (by decide),Md,Ai ⟨by decide,by omega,by omega⟩]
  exact ⟨_,rfl⟩
 | k+1,m+1,i,s,hi,hm,h,h2,h1=>by
  have a:i<l.length:=by omega
  obtain ⟨w,e,z,b,c⟩:=X9 l[i] (hp _ (List.getElem_mem a))
  rw [HA,AD,Ah a,Ai rfl,AH a,Af,e,Af,Ab,Ai (AG (by omega))]
  exact Ye n l hp hl k m (i+1) (s++w) (by omega) (by omega) (by rw [ByteArray.size_append];omega) (by rw [ByteArray.size_append];omega) h1
theorem ZfJ (n:Nat) (hn:25≤n) (l:List Part) (hp:∀ p∈l,p.wf∧pOk p=true) (hl:l.length≤20):∃ r,Ib n l=some r:=by
 obtain ⟨b,e⟩:=YG n hn l (fun p h=>(hp p h).1) hl
 rw [Ib,e,Af]
 cases b with
 | false=>exact ⟨_,rfl⟩
 | true =>
  rw [Ai rfl,Aj (by decide)]
  rcases Nat.eq_zero_or_pos l.length with h | h
  ·have:l=[]:=List.length_eq_zero_iff.1 h
   subst this
   rw [IC] at e
   rw [Ai (by rfl)] at e
   exact absurd (Option.some.inj e) (by decide)
  ·exact Ye n l (fun p h=>(hp p h).2) hl l.length n 0 ⟨#[]⟩ (by omega) (by omega) (Nat.zero_le _) (Nat.zero_le _) h
def UW (n:Nat) (l:List Part):ByteArray × Int:=(Ib n l).getD (⟨#[]⟩,0)
theorem Zaw (n:Nat) (hn:25≤n) (l:List Part) (hp:∀ p∈l,p.wf∧pOk p=true) (hl:l.length≤20):Ib n l=some (UW n l):=by
 obtain ⟨r,e⟩:=ZfJ n hn l hp hl
 rw [UW,e];rfl
theorem Leads.pOk {t x:Ty} {l:List Part} (h:Leads t l x) (tg:t.Good):∀ p∈l,p.wf∧pOk p=true:=by
 intro p hp
 refine ⟨h.wf tg p hp,?_⟩
 induction h with
 | nil=>simp at hp
 | @cons t x q l h k ih =>
  rcases List.mem_cons.1 hp with rfl | hp
  ·have own:=tg.own
   unfold BC at h
   split at h
   ·obtain ⟨e,a,rfl⟩:=List.mem_map.1 h;rfl
   ·split at h
    ·obtain ⟨e,a,rfl⟩:=List.mem_map.1 h
     have:=(own.each e a).1
     show (if (1:Int)=1∨(1:Int)=4 then decide ((0:Int)=0)&&EZ e.2.1 else _)=true
     rw [Ai (by decide),this];rfl
    ·split at h
     ·obtain ⟨e,a,rfl⟩:=List.mem_map.1 h
      have:=(own.each e a).1
      show (if (4:Int)=1∨(4:Int)=4 then decide ((0:Int)=0)&&EZ e.2.1 else _)=true
      rw [Ai (by decide),this];rfl
     ·simp at h
  ·exact ih (Ro tg h) hp
def S9 (ls:List (List Part)):Prop:=ls.length≤1000∧∀ l∈ls,l.length≤20∧∀ p∈l,p.wf∧pOk p=true
theorem Zq (n:Nat) (hn:3000000≤n) (t:Ty) (ht:t.small):∃ c ls,HT n t=some c∧Gw n t=some ls∧S9 ls:=by
 have g:=ht.1
 have b:=ht.2.1
 obtain ⟨c,e,f⟩:=Yu n t hn ht
 by_cases h:c=0
 ·have tg:=(f h).good
  refine ⟨c,lvs n t [],e,?_,?_⟩
  ·rw [Gw,e,Af,Ah h,Aj (by decide),RE n t [] [] (by omega) (by simp only [List.length_nil];omega) (by omega) (by simp only [List.length_nil];omega),List.nil_append]
   rfl
  ·have:=WH n t []
   refine ⟨by omega,fun l a=>?_⟩
   obtain ⟨d,x,q1,q2,q3,i⟩:=VV n t [] l a
   rw [List.nil_append] at q1
   subst q1
   exact ⟨by omega,q2.pOk tg⟩
 ·refine ⟨c,[],e,?_,by simp,by simp⟩
  rw [Gw,e,Af,Ag h]
  rfl
theorem SV (n:Nat) (y:List (List Part)) (hl:y.length≤1000000):∀ (k m i:Nat),i+k=y.length→k<m→DX n y m (y.take i) i=some y
 | k,0,i,_,h=>absurd h (Nat.not_lt_zero _)
 | 0,m+1,i,hi,_=>by
  rw [DX,AD,Ac,Aj (by decide),Ig,List.take_of_length_le (by omega)]
 | k+1,m+1,i,hi,hm=>by
  have a:i<y.length:=by omega
  rw [DX,AD,Ah a,Ai rfl,AH a,Af,Ai (by rw [List.length_take];omega),Ai (AG (by omega))]
  have e:y.take i++[y[i]]=y.take (i+1):=by rw [List.take_succ_eq_append_getElem a]
  rw [e]
  exact SV n y hl k m (i+1) (by omega) (by omega)
theorem ZD (n:Nat) (t:Ty) (ls:List (List Part)) (h:Gw n t=some ls) (hl:ls.length≤1000000) (hn:ls.length<n):G6 n t=some ls:=by
 rw [G6,h,Af]
 have:=SV n ls hl ls.length n 0 (by omega) hn
 rw [List.take_zero] at this
 exact this
theorem OM (n:Nat) (hn:1100≤n) (y:List Part × Int) (hy:y.1.length≤16) (ss:List ByteArray) (hs:ss.length≤1000) (ls:List (List Part)) (hl:S9 ls):∀ (k m i:Nat) (a b:List ByteArray),i+k=ls.length→k<m→a.length≤i→b.length≤i →
  BX n y ss ls m a b i=some (a++((ls.drop i).filter fun l=>ss.any (OT n y.1 l)).map (fun l=>(UW n l).1),b++((ls.drop i).filter fun l => !ss.any (OT n y.1 l)).map (fun l=>(UW n l).1),0)
 | k,0,i,_,_,_,h,_,_=>absurd h (Nat.not_lt_zero _)
 | 0,m+1,i,a,b,hi,_,_,_=>by
  rw [BX,AD,Ac,Aj (by decide),Hj,List.drop_eq_nil_of_le (by omega)]
  simp
 | k+1,m+1,i,a,b,hi,hm,ha,hb=>by
  have c:i<ls.length:=by omega
  have d:=hl.1
  obtain ⟨q1,q2⟩:=hl.2 _ (List.getElem_mem c)
  rw [BX,AD,Ah c,Ai rfl,AH c,Af,Zaw n (by omega) _ q2 q1,Af,ZhU n hn ss hs _ _ hy,Af,List.drop_eq_getElem_cons c,List.filter_cons,List.filter_cons]
  cases ss.any (OT n y.1 ls[i]) with
  | true =>
   rw [Ai rfl,Ab,Ed,Ai (AG (by omega))]
   have ih:=OM n hn y hy ss hs ls hl k m (i+1) (a++[(UW n ls[i]).1]) b (by omega) (by omega) (by rw [E1];omega) (by omega)
   refine Eq.trans ih ?_
   simp
  | false =>
   rw [Aj (by decide),Ab,Ed,Ai (AG (by omega))]
   have ih:=OM n hn y hy ss hs ls hl k m (i+1) a (b++[(UW n ls[i]).1]) (by omega) (by omega) (by omega) (by rw [E1];omega)
   refine Eq.trans ih ?_
   simp
theorem Qy (n:Nat) (hn:1100≤n) (mp:List (ByteArray × Ex)) (y:List Part × Int) (hy:y.1.length≤16) (ss:List ByteArray) (hq:Dn n mp=some ss) (hs:ss.length≤1000) (ls:List (List Part)) (hl:S9 ls):∀ (k m i:Nat) (a b:List ByteArray),i+k=ls.length→k<m→a.length≤i→b.length≤i →
  CZ n mp y ls m a b i=some (a++((ls.drop i).filter fun l => !ss.any (OT n y.1 l)).map (fun l=>(UW n l).1),b++((ls.drop i).filter fun l=>ss.any (OT n y.1 l)).map (fun l=>(UW n l).1),0)
 | k,0,i,_,_,_,h,_,_=>absurd h (Nat.not_lt_zero _)
 | 0,m+1,i,a,b,hi,_,_,_=>by
  rw [CZ,AD,Ac,Aj (by decide),IX,List.drop_eq_nil_of_le (by omega)]
  simp
 | k+1,m+1,i,a,b,hi,hm,ha,hb=>by
  have c:i<ls.length:=by omega
  have e:=hl.1
  obtain ⟨q1,q2⟩:=hl.2 _ (List.getElem_mem c)
  rw [CZ,AD,Ah c,Ai rfl,AH c,Af,hq,Af,Za4 n hn ss hs _ _ hy (fun p d=>VU (q2 p d).2),Af,KJ,Zaw n (by omega) _ q2 q1,Af,Af,Af,List.drop_eq_getElem_cons c,List.filter_cons,List.filter_cons]
  cases ss.any (OT n y.1 ls[i]) with
  | true =>
   rw [Ai rfl,Ab,FC,Ai (AG (by omega))]
   have ih:=Qy n hn mp y hy ss hq hs ls hl k m (i+1) a (b++[(UW n ls[i]).1]) (by omega) (by omega) (by omega) (by rw [E1];omega)
   refine Eq.trans ih ?_
   simp
  | false =>
   rw [Aj (by decide),Ab,FC,Ai (AG (by omega))]
   have ih:=Qy n hn mp y hy ss hq hs ls hl k m (i+1) (a++[(UW n ls[i]).1]) b (by omega) (by omega) (by rw [E1];omega) (by omega)
   refine Eq.trans ih ?_
   simp
theorem XD (n:Nat) (a:List ByteArray) (hl:a.length≤1000000):∀ (k m i:Nat),i+k=a.length→k<m→Ff n a a m i=some true
 | k,0,i,_,h=>absurd h (Nat.not_lt_zero _)
 | 0,m+1,i,hi,_=>by
  rw [Ff,AD,Ac,Aj (by decide),KZ]
 | k+1,m+1,i,hi,hm=>by
  have b:i<a.length:=by omega
  rw [Ff,AD,Ah b,Ai rfl,AH b,Af,Af,YF,Aj (by decide),Ai (AG (by omega))]
  exact XD n a hl k m (i+1) (by omega) (by omega)
theorem V6 (n:Nat) (a:List ByteArray) (hl:a.length≤1000000) (hn:a.length<n):IR n a a=some true:=by
 rw [IR,Ah rfl,Aj (by decide)]
 exact XD n a hl a.length n 0 (by omega) hn
theorem VM (n:Nat) (a:List Part) (hl:a.length≤1000000):∀ (k m i:Nat),i+k=a.length→k<m→CE n a m i=some (!(a.drop i).any fun p => !decide (p.kind=1))
 | k,0,i,_,h=>absurd h (Nat.not_lt_zero _)
 | 0,m+1,i,hi,_=>by
  rw [CE,AD,Ac,Aj (by decide),FZ,List.drop_eq_nil_of_le (by omega)];rfl
 | k+1,m+1,i,hi,hm=>by
  have b:i<a.length:=by omega
  have ih:=VM n a hl k m (i+1) (by omega) (by omega)
  rw [CE,AD,Ah b,Ai rfl,AH b,Af,List.drop_eq_getElem_cons b,List.any_cons]
  cases decide (a[i].kind=1) with
  | false=>rfl
  | true =>
   rw [Aj (by decide),Ai (AG (by omega))]
   exact ih
theorem ZbT (n:Nat) (a:List Part) (hl:a.length≤1000000) (hn:a.length<n):GM n a=some (!a.any fun p => !decide (p.kind=1)):=by
 have:=VM n a hl a.length n 0 (by omega) hn
 rw [List.drop_zero] at this
 exact this
theorem ZbM (n:Nat) (hn:5≤n) (a b:Int):GN n [a,b]=some (if a=0 then b else a):=by
 obtain ⟨m,rfl⟩:∃ m,n=m+3:=⟨n-3,by omega⟩
 have f:Cb [a,b] 0=some a:=rfl
 have e:Cb [a,b] (0+1)=some b:=rfl
 have d:A6 (0+1):=by unfold A6;omega
 have c:A6 (0+1+1):=by unfold A6;omega
 rw [GN,EH,Ai (by simp),f,Af]
 by_cases h:a=0
 ·rw [Ah h,Aj (by decide),Ai d,EH,Ai (by simp),e,Af,Ai h]
  by_cases k:b=0
  ·rw [Ah k,Aj (by decide),Ai c,EH,Aj (by simp),IZ,k]
  ·rw [Ag k,Ai (by decide)]
 ·rw [Ag h,Ai (by decide),Aj h]
def BJ (b:ByteArray):Ex :=
 Ex.mk 2 0 b ([]) ([])
theorem Zr (w0:World) (B:Ao) (Rw:Av) (L:As) (a0:ByteArray) (r:Ex) (h:BJ a0=r) :
  ACalls Tryz.prog w0 31 [.val (.string a0)] ⟨B,Rw,L⟩ fun x st=>x = .agg (r.cs)∧st=⟨B,Rw,L⟩:=by
 rw [BJ] at h
 refine hd [.cell 2 65] Tryz.func31 Tryz.ntmps31 fun M0 W0 e b c a f d hs=>?_
 simp only [AA]
 refine rg [0,2] hs ?_
 refine rg [2] hs ?_
 exact rT h hs a d
theorem K0 (w0:World) (B:Ao) (Rw:Av) (L:As) (a0:ByteArray) :
  ACalls Tryz.prog w0 31 [.val (.string a0)] ⟨B,Rw,L⟩ fun x st=>x = .agg ((BJ a0).cs)∧st=⟨B,Rw,L⟩:=Zr w0 B Rw L a0 _ rfl
def KT (n:Nat)  (b1_k4_6:List (Int × ByteArray × Int × Ty × List Vl)):Option Ty :=
 some (Ty.mk 9 0 0 0 ([]) ([]) b1_k4_6)
def H7 (n:Nat) (h:List ByteArray) (q:Ty):Nat→Int→(List (Int × ByteArray × Int × Ty × List Vl))→Option Ty
 | 0,_,_=>none
 | m+1,b,b1_l7_6 =>
  if decide (b<(h.length:Int)) then
   if A6 (b+1) then
    (Cb h b).bind fun g =>
    if (b1_l7_6.length+1)*160≤140737488355328∧b1_l7_6.length+1≤4611686018427387904 then
     if A6 (b+1) then
      (H7 n h q m) (b+1) (b1_l7_6++([(b+1,g,1,q,[])]))
     else none
    else none
   else none
  else
   KT n b1_l7_6
def I1 (n:Nat) (b:List ByteArray) (g:Ty):Option Ty :=
 H7 n b g n 0 ([])
theorem NQ (w0:World) (n:Nat) (B:Ao) (Rw:Av) (L:As) (a0:List ByteArray) (la1:Nat) (a1:Ty) (hla1:B[la1]? = some (a1.cs)) (r:Ty) (h:I1 n a0 a1=some r) :
  ACalls Tryz.prog w0 71 [.list (a0.map CB) .none,.box la1 0] ⟨B,Rw,L⟩ fun x st=>x = .agg (r.cs)∧st=⟨B,Rw,L⟩:=by
 rw [I1] at h
 refine hd [.cell 3 26] Tryz.func71 Tryz.ntmps71 fun M0 W0 G u q i K j hs=>?_
 simp only [AA]
 have v:=(Ak.1 hla1).1
 have hs:=Ae (Ar hla1) hs
 refine rg [0,1,3] hs ?_
 refine rg [0,1,3,4] hs ?_
 refine AB (fun e st=>∃ (c:List (Int × ByteArray × Int × Ty × List Vl)) (f:Ev.Own),Ck e st B Rw L [(3,true,.box B.length 0),(4,true,.box (B.length+1) 0)] [[Am 0,Am 0,Am 0,Am 0,.list ([]) .full,.list ([]) .full,.list ([]) .full],[Am 9,Am 0,Am 0,Am 0,.list ([]) .full,.list ([]) .full,.list (c.map Cd) f]] [(11,c.length,f)] (KT n c=some r)) ?_ ?_
 ·intro K5 z
  refine rg [0,1,3,4,5] hs ?_
  apply Aq
  refine AC (fun m e st=>∃ (g:Int) (a:List (Int × ByteArray × Int × Ty × List Vl)) (b:Ev.Own),Ck e st B Rw L [(0,true,.list (a0.map CB) .none),(1,true,.box la1 0),(3,true,.box B.length 0),(4,true,.box (B.length+1) 0),(5,true,Am g)] [[Am 0,Am 0,Am 0,Am 0,.list ([]) .full,.list ([]) .full,.list ([]) .full],[Am 9,Am 0,Am 0,Am 0,.list ([]) .full,.list ([]) .full,.list (a.map Cd) b]] [(11,a.length,b)] (H7 n a0 a1 m g a=some r)) n ⟨0,([]),.full,([]),Rw,ef hs,ef hs,Owns.of_eq ((j).full 11 0) D6,h⟩ ?_
  rintro ml7 e st ⟨g,a,b,Xl7,Rl7,rfl,rfl,j,h⟩ Ul7 Vl7
  cases ml7 with
  | zero=>cases h
  | succ ml7 =>
  rw [H7] at h
  have F:=j.unders
  simp only [List.mem_cons,List.not_mem_nil,or_false,forall_eq_or_imp,forall_eq] at F
  refine td G u q i j ?_
  apply An;intro K8 t
  refine rg [0,1,3,4,5,10] hs ?_
  refine BQ h hs ?_ ?_<;>intro hs h
  rotate_left
  ·refine sx [3,4] hs z ?_
   exact ⟨a,b,([]),Rl7,ef hs,ef hs,Owns.of_eq (j) D6,h⟩
  refine sk [0,1,3,4,5] hs t ?_
  clear t
  apply An;intro K11 o
  apply Aq
  obtain ⟨J,h⟩:=Au h
  obtain ⟨D,E,C,p,h⟩:=ix CB h
  obtain ⟨l,h⟩:=Au h
  obtain ⟨w,k,j,d⟩:=j.append (P:=Tryz.prog) TM (by rw [NV];rfl) (by decide) 1 l.1 l.2
  replace d:=fun (ys:List AV) B L o2=>d (a.map Cd) ys B L o2 D6
  replace d:=fun (y:AV) B L o2=>d [y] B L o2 D6 ev
  try simp only [List.mem_singleton,List.mem_cons,List.not_mem_nil,or_false,forall_eq_or_imp,forall_eq,List.map_append,List.map_cons,List.map_nil,GE,GA,Gj,EQ,EO,F7,Dp,Ek,Ge,CP,CJ,EF,Ez,Et,Gi,Ew,F5] at d
  have hs:=Ae p hs
  have hs:=Ae (Ty.cs_eqs a1) hs
  have hs:=Ae d hs
  refine dl 11 1 1 [0,1,3,4,5] hs PH o ?_
  clear o
  obtain ⟨H,h⟩:=Au h
  refine rl [0,1,3,4,5] hs (fun e s=>Vl7 ml7 e s (Nat.lt_succ_self _)) ?_
  exact ⟨(g+1),(a++([(g+1,D,1,a1,[])])),w,([]),k,ef hs,ef hs,Owns.of_eq (j) D6,h⟩
 ·clear h;rintro e st ⟨c,f,Xk4,Rk4,rfl,rfl,j,h⟩
  rw [KT] at h
  have F:=j.unders
  simp only [List.mem_cons,List.not_mem_nil,or_false,forall_eq_or_imp,forall_eq] at F
  refine td G u q i j ?_
  refine rg [3] hs ?_
  exact rt h hs i j
def JK (n:Nat)  (b1_k4_6:List (Int × ByteArray × Int × Ty × List Vl)):Option Ty :=
 some (Ty.mk 9 0 0 0 ([]) ([]) b1_k4_6)
def Hh (n:Nat) (h:List ByteArray) (q:Ty):Nat→Int→(List (Int × ByteArray × Int × Ty × List Vl))→Option Ty
 | 0,_,_=>none
 | m+1,b,b1_l7_6 =>
  if decide (b<(h.length:Int)) then
   if A6 (b+1) then
    (Cb h b).bind fun g =>
    if (b1_l7_6.length+1)*160≤140737488355328∧b1_l7_6.length+1≤4611686018427387904 then
     if A6 (b+1) then
      (Hh n h q m) (b+1) (b1_l7_6++[(b+1,g,1,q,[])])
     else none
    else none
   else none
  else
   JK n b1_l7_6
def KG (n:Nat) (b:List ByteArray) (g:Ty):Option Ty :=
 Hh n b g n 0 ([])
theorem RJ (w0:World) (n:Nat) (B:Ao) (Rw:Av) (L:As) (a0:List ByteArray) (la1:Nat) (a1:Ty) (hla1:B[la1]? = some (a1.cs)) (r:Ty) (h:KG n a0 a1=some r) :
  ACalls Tryz.prog w0 71 [.list (a0.map CB) .none,.box la1 0] ⟨B,Rw,L⟩ fun x st=>∃ (o0:VO) (rows:Av),x = .agg ([Am r.kind,Am r.min,Am r.max,Am r.scale,.list (r.words.map CB) .none,.list (r.elem.map J1) .none,Pn o0 r.fields.length])∧st=⟨B,rows,L⟩∧Owns Rw rows [] .none [(o0,11,(r.fields).flatMap fun x=>(Cd x).cells)]:=by
 rw [KG] at h
 refine ACalls.finV (ZC [true,true,true,true,true,true,false] (rs:=[.cell 3 26]) Tryz.func71 rfl rfl Tryz.ntmps71 (AZ Tryz.func71 rfl (by decide)) (Nat.le_of_ble_eq_true rfl) ?_)
 intro M0 W0 F w t i K
 dsimp only at F w t i K
 simp only [AA]
 have j:=Owns.none Rw
 have hs:=ZcH
 have z:=(Ak.1 hla1).1
 have hs:=Ae (Ar hla1) hs
 refine rg [0,1,3] hs ?_
 refine rg [0,1,3,4] hs ?_
 refine AB (fun e st=>∃ (d:List (Int × ByteArray × Int × Ty × List Vl)) (g:VO) (Xk4:Ao) (Rk4:Av),e=[(3,true,.box B.length 0),(4,true,.box (B.length+1) 0)]∧st=⟨B++([[Am 0,Am 0,Am 0,Am 0,.list ([]) .full,.list ([]) .full,.list ([]) .full],[Am 9,Am 0,Am 0,Am 0,.list ([]) .full,.list ([]) .full,Pn g d.length]]++Xk4),Rk4,L⟩∧Owns Rw Rk4 [] .none [(g,11,d.flatMap fun x=>(Cd x).cells)]∧JK n d=some r) ?_ ?_
 ·intro K5 E
  refine rg [0,1,3,4,5] hs ?_
  apply Aq
  refine Qa (B.length+1) 6 (by simp only [FX,Ey,Em,Dj];rfl) rfl ?_;simp +decide only [go_sem,Nat.reduceAdd,List.set_cons_zero,List.set_cons_succ]
  have j:=j.nilV 11
  refine AC (fun m e st=>∃ (c:Int) (a:List (Int × ByteArray × Int × Ty × List Vl)) (b:VO) (Xl7:Ao) (Rl7:Av),e=[(0,true,.list (a0.map CB) .none),(1,true,.box la1 0),(3,true,.box B.length 0),(4,true,.box (B.length+1) 0),(5,true,Am c)]∧st=⟨B++([[Am 0,Am 0,Am 0,Am 0,.list ([]) .full,.list ([]) .full,.list ([]) .full],[Am 9,Am 0,Am 0,Am 0,.list ([]) .full,.list ([]) .full,Pn b a.length]]++Xl7),Rl7,L⟩∧Owns Rw Rl7 [] .none [(b,11,a.flatMap fun x=>(Cd x).cells)]∧Hh n a0 a1 m c a=some r) n ⟨0,([]),.nil,([]),Rw,ef hs,ef hs,Owns.eqV (j) fn_,h⟩ ?_
  rintro ml7 e st ⟨c,a,b,Xl7,Rl7,rfl,rfl,j,h⟩ Ul7 Vl7
  cases ml7 with
  | zero=>cases h
  | succ ml7 =>
  rw [Hh] at h
  have l:=j.underV
  simp only [List.mem_cons,List.not_mem_nil,or_false,forall_eq_or_imp,forall_eq] at l
  refine A9 F w t rfl i j ow ow ?_ (vu @WA)
  apply An;intro K9 y
  refine rg [0,1,3,4,5,10] hs ?_
  refine BQ h hs ?_ ?_<;>intro hs h
  rotate_left
  ·refine sx [3,4] hs E ?_
   exact ⟨a,b,([]),Rl7,ef hs,ef hs,Owns.eqV (j) fn_,h⟩
  refine sk [0,1,3,4,5] hs y ?_
  clear y
  apply An;intro K12 p
  apply Aq
  obtain ⟨J,h⟩:=Au h
  obtain ⟨v,G,C,u,h⟩:=ix CB h
  obtain ⟨q,h⟩:=Au h
  obtain ⟨D,o,j,k⟩:=j.appendV (P:=Tryz.prog) (n:=a.length) (m:=1) TM (by rw [NV];rfl) (by decide) ((KN (f:=Cd) (sz:=11) (fun _=>by simp +decide only [go_sem]) _)) q.1 q.2 [Cd ((c+1,v,1,a1,[]))] rfl ((a++[(c+1,v,1,a1,[])]).flatMap fun x=>(Cd x).cells) (by simp only [List.flatMap_append,List.flatMap_cons,List.flatMap_nil,List.append_nil,List.nil_append,VZ])
  simp only [List.mem_singleton,forall_eq,GE,GA,Gj,EQ,EO,F7,Dp,Ek,Ge,CP,CJ,EF,Ez,Et,Gi,Ew,F5,Ty.cs_eqs a1,List.cons_append,List.nil_append,List.map_nil,List.map_cons] at k
  have hs:=Ae u hs
  have hs:=Ae (Ty.cs_eqs a1) hs
  have hs:=Ae k hs
  refine dl 11 1 1 [0,1,3,4,5] hs PH p ?_
  clear p
  obtain ⟨H,h⟩:=Au h
  refine rl [0,1,3,4,5] hs (fun e s=>Vl7 ml7 e s (Nat.lt_succ_self _)) ?_
  exact ⟨(c+1),(a++[(c+1,v,1,a1,[])]),D,([]),o,ef hs,ef hs,Owns.eqV (j) fn_,h⟩
 ·clear h;rintro e st ⟨d,g,Xk4,Rk4,rfl,rfl,j,h⟩
  rw [JK] at h
  have l:=j.underV
  simp only [List.mem_cons,List.not_mem_nil,or_false,forall_eq_or_imp,forall_eq] at l
  refine A9 F w t rfl i j ow ow ?_ (vu @WA)
  refine rg [3] hs ?_
  apply A1;simp +decide only [go_sem,Nat.reduceAdd,Ar hla1]
  have hgt:=Option.some.inj h;subst hgt
  have l:=j.underV
  simp only [List.mem_cons,List.not_mem_nil,or_false,forall_eq_or_imp,forall_eq] at l
  refine Zhp j i rfl (by (simp +decide only [go_sem,Nat.reduceAdd,Ar hla1])<;>(try (repeat' apply Ae))<;>first | omega | assumption) (vu @WA) ⟨_,_,?_,rfl,j.sub (List.nil_sublist _)⟩
  first | rfl | (simp +decide only [go_sem,Nat.reduceAdd,Ar hla1];done) | (simp +decide only [go_sem,Nat.reduceAdd,Vl.cs,Ty.cs,Ar hla1];done)
def BN (b:ByteArray) (g:Ex):((ByteArray × Ex)) :=
 (b,g)
theorem XF (w0:World) (B:Ao) (Rw:Av) (L:As) (a0:ByteArray) (a1:Ex) (r:(ByteArray × Ex)) (h:BN a0 a1=r) :
  ACalls Tryz.prog w0 30 [.val (.string a0),.agg (a1.cs)] ⟨B,Rw,L⟩ fun x st=>x = .agg (.val (.string r.1)::(r.2.cs))∧st=⟨B,Rw,L⟩:=by
 rw [BN] at h
 refine hd [.cell 4 67] Tryz.func30 Tryz.ntmps30 fun M0 W0 e b c a f d hs=>?_
 simp only [AA]
 refine rg [0,3,4] hs ?_
 refine rg [4] hs ?_
 exact rT h hs a d
theorem J9 (w0:World) (B:Ao) (Rw:Av) (L:As) (a0:ByteArray) (a1:Ex) :
  ACalls Tryz.prog w0 30 [.val (.string a0),.agg (a1.cs)] ⟨B,Rw,L⟩ fun x st=>x = .agg (.val (.string (BN a0 a1).1)::((BN a0 a1).2.cs))∧st=⟨B,Rw,L⟩:=XF w0 B Rw L a0 a1 _ rfl
def JI (n:Nat)  : Option Int :=
 some (0)
def Hl (n:Nat) (q:List (ByteArray × Ex)):Nat→Int→Option Int
 | 0,_=>none
 | m+1,b =>
  if decide (b<(q.length:Int)) then
   (Cb q b).bind fun h =>
   (GK n h.2).bind fun g =>
   if !(decide (g=0)) then
    some (g)
   else
    if A6 (b+1) then
     (Hl n q m) (b+1)
    else none
  else
   JI n 
def Gv (n:Nat) (b:List (ByteArray × Ex)):Option Int :=
 Hl n b n 0
theorem JC (w0:World) (hE:Jl w0) (hM:Jh w0) (hP:Pow10 w0) (hT:Lib.Utf8Tabs 2 3 w0) (n:Nat) (B:Ao) (Rw:Av) (L:As) (a0:List (ByteArray × Ex)) (r:Int) (h:Gv n a0=some r) :
  ACalls Tryz.prog w0 74 [.agg ([.list (a0.map A5) .none])] ⟨B,Rw,L⟩ fun x st=>x=Am r∧st=⟨B,Rw,L⟩:=by
 rw [Gv] at h
 refine hd [.tmp 2] Tryz.func74 Tryz.ntmps74 fun M0 W0 u j g b D d hs=>?_
 simp only [AA]
 refine rg [1] hs ?_
 refine AB (fun e st=>Ck e st B Rw L [] [[.list (a0.map A5) .none]] [] (JI n  = some r)) ?_ ?_
 ·intro K4 v
  refine rg [7,8,9] hs ?_
  apply Aq
  refine AC (fun m e st=>∃ (c:Int),Ck e st B Rw L [(7,true,.list (a0.map A5) .none),(8,true,Am (a0.length:Int)),(9,true,Am c)] [[.list (a0.map A5) .none]] [] (Hl n a0 m c=some r)) n ⟨0,([]),Rw,ef hs,ef hs,d,h⟩ ?_
  rintro ml6 e st ⟨c,Xl6,Rl6,rfl,rfl,d,h⟩ Ul6 Vl6
  cases ml6 with
  | zero=>cases h
  | succ ml6 =>
  rw [Hl] at h
  refine td u j g b d ?_
  refine rg [7,8,9,10] hs ?_
  apply An;intro K8 q
  refine BQ h hs ?_ ?_<;>intro hs h
  rotate_left
  ·refine sx [] hs v ?_
   exact ⟨([]),Rl6,ef hs,ef hs,d,h⟩
  refine sk [7,8,9] hs q ?_
  clear q
  apply An;intro K10 p
  apply Aq
  obtain ⟨w,t,h⟩:=bind_some h
  obtain ⟨y,z,i⟩:=Bi t
  have k:=Bj (f:=A5) i
  have hs:=Ae k hs
  refine rg [4,7,8,9] hs ?_
  obtain ⟨C,l,h⟩:=bind_some h
  refine rc 2 [5,7,8,9] hs ?_;intro K13 o
  refine Aw _ (OC w0 hE hM hP hT n _ _ _ w.2 _ l) (hv hs) ?_
  exact go (tg (a:=([5,7,8,9,17],([2],()),[7,8,9],[7,8,9],()))) h hs u j g b d trivial (q3 o p (fun e s=>Vl6 ml6 e s (Nat.lt_succ_self _)))
 ·clear h;rintro e st ⟨Xk3,Rk3,rfl,rfl,d,h⟩
  rw [JI] at h
  refine td u j g b d ?_
  refine rg [2] hs ?_
  exact rt h hs b d
def C4 (n:Nat) (b:List Part) (h:List Part):Option Bool :=
 (CY n b h).bind fun g =>
 some (g)
theorem KX (w0:World) (n:Nat) (B:Ao) (Rw:Av) (L:As) (a0:List Part) (la1:Nat) (a1:List Part) (hla1:B[la1]? = some ([.list (a1.map AK) .none])) (r:Bool) (h:C4 n a0 a1=some r) :
  ACalls Tryz.prog w0 304 [.list (a0.map AK) .none,.box la1 0] ⟨B,Rw,L⟩ fun x st=>x = .val (.bool r)∧st=⟨B,Rw,L⟩:=by
 rw [C4] at h
 refine hd [.tmp 3] Tryz.func304 Tryz.ntmps304 fun M0 W0 g d e b i f hs=>?_
 simp only [AA]
 have c:=(Ak.1 hla1).1
 have hs:=Ae (Ar hla1) hs
 exact go (tg (a:=([0,1],[3],()))) h hs g d e b f (q1 (Dh w0 n)) trivial
def E5 (n:Nat) (b:Cps) (h:List Part):Option Bool :=
 (BD n b.targets (fun (q:List Part)=>C4 n q h)).bind fun g =>
 some (g)
theorem LY (w0:World) (n:Nat) (B:Ao) (Rw:Av) (L:As) (la0:Nat) (a0:Cps) (hla0:B[la0]? = some (.list (a0.rules.map A5) .none::(.list (a0.targets.map (Jc AK)) .none::(a0.mid.cs)))) (a1:List Part) (r:Bool) (h:E5 n a0 a1=some r) :
  ACalls Tryz.prog w0 243 [.box la0 0,.list (a1.map AK) .none] ⟨B,Rw,L⟩ fun x st=>x = .val (.bool r)∧st=⟨B,Rw,L⟩:=by
 rw [E5] at h
 refine hd [.tmp 4] Tryz.func243 Tryz.ntmps243 fun M0 W0 p g i a q j hs=>?_
 simp only [AA]
 have c:=(Ak.1 hla0).1
 have hs:=Ae (Ar hla0) hs
 refine rg [0,3] hs ?_
 obtain ⟨m,d,h⟩:=bind_some h
 refine rc 2 [4] hs ?_;intro K2 b
 refine Aw _ (Hf w0 n _ _ _ a0.targets 304 [.box B.length 0] (fun (e:List Part)=>C4 n e a1) (fun e r l o rows' f k=>by exact KX w0 n _ _ _ e _ a1 (D1 f (ef hs)) _ l) _ d) (hv hs) ?_
 refine ne hs b ?_
 clear b
 exact rt h hs a j
def JP (n:Nat)  (b:Bool) (b0_k3:Ty) (b1_k3:Int × ByteArray × Int × Ty × List Vl):Option ((Int × ByteArray × Int × Ty × List Vl) × Bool) :=
 some ((b1_k3,b))
def Hn (n:Nat) (y:List Part):Nat→Bool→Int→Ty→(Int × ByteArray × Int × Ty × List Vl)→Option ((Int × ByteArray × Int × Ty × List Vl) × Bool)
 | 0,_,_,_,_=>none
 | m+1,h,b,b0_l6,b1_l6 =>
  if decide (b<(y.length:Int)) then
   (Cb y b).bind fun q =>
   if (!(decide (q.kind=1)))||(!(decide (b0_l6.kind=9))) then
    some (((0,(⟨#[]⟩:ByteArray),0,Ty.mk 0 0 0 0 ([]) ([]) ([]),[]),false))
   else
    (ID n b0_l6 q.name).bind fun g =>
    if !g.2 then
     some (((0,(⟨#[]⟩:ByteArray),0,Ty.mk 0 0 0 0 ([]) ([]) ([]),[]),false))
    else
     if A6 (b+1) then
      (Hn n y m) g.2 (b+1) g.1.2.2.2.1 g.1
     else none
  else
   JP n h b0_l6 b1_l6
def Ic (n:Nat) (b:Ty) (g:List Part):Option ((Int × ByteArray × Int × Ty × List Vl) × Bool) :=
 Hn n g n false 0 b ((0,(⟨#[]⟩:ByteArray),0,Ty.mk 0 0 0 0 ([]) ([]) ([]),[]))
theorem M8 (w0:World) (n:Nat) (B:Ao) (Rw:Av) (L:As) (a0:Ty) (a1:List Part) (r:(Int × ByteArray × Int × Ty × List Vl) × Bool) (h:Ic n a0 a1=some r) :
  ACalls Tryz.prog w0 165 [.agg (a0.cs),.list (a1.map AK) .none] ⟨B,Rw,L⟩ fun x st=>x = .tup [.agg (Am r.1.1::(.val (.string r.1.2.1)::(Am r.1.2.2.1::((r.1.2.2.2.1.cs)++([.list (r.1.2.2.2.2.map Di) .none]))))),.val (.bool r.2)]∧st=⟨B,Rw,L⟩:=by
 rw [Ic] at h
 refine hd [.cell 4 95,.tmp 5] Tryz.func165 Tryz.ntmps165 fun M0 W0 Y K H g hu t hs=>?_
 simp only [AA]
 refine rg [1,2,4,5] hs ?_
 refine AB (fun e st=>∃ (p:Bool) (k:Ty) (b:Int × ByteArray × Int × Ty × List Vl) (q:List AV) (l:List AV),Ck e st B Rw L [(4,true,.box (B.length+1) 0),(5,true,.val (.bool p))] [q,l] [] (q.map AV.pubCell=k.cs∧l.map AV.pubCell=Am b.1::(.val (.string b.2.1)::(Am b.2.2.1::((b.2.2.2.1.cs)++([.list (b.2.2.2.2.map Di) .none]))))∧JP n p k b=some r)) ?_ ?_
 ·intro K4 Q
  refine rg [2,4,5,8,9,10] hs ?_
  apply Aq
  refine AC (fun m e st=>∃ (i:Bool) (c:Int) (d:Ty) (a:Int × ByteArray × Int × Ty × List Vl) (j:List AV) (o:List AV),Ck e st B Rw L [(2,true,.box B.length 0),(4,true,.box (B.length+1) 0),(5,true,.val (.bool i)),(8,true,.list (a1.map AK) .none),(9,true,Am (a1.length:Int)),(10,true,Am c)] [j,o] [] (j.map AV.pubCell=d.cs∧o.map AV.pubCell=Am a.1::(.val (.string a.2.1)::(Am a.2.2.1::((a.2.2.2.1.cs)++([.list (a.2.2.2.2.map Di) .none]))))∧Hn n a1 m i c d a=some r)) n ⟨false,0,a0,((0,(⟨#[]⟩:ByteArray),0,Ty.mk 0 0 0 0 ([]) ([]) ([]),[])),_,_,([]),Rw,ef hs,ef hs,t,ef hs,ef hs,h⟩ ?_
  rintro ml6 e st ⟨i,c,d,a,j,o,Xl6,Rl6,rfl,rfl,t,E,G,h⟩ Ul6 Vl6
  cases ml6 with
  | zero=>cases h
  | succ ml6 =>
  rw [Hn] at h
  refine FB B.length (by first | rfl | (simp only [FX,Ey,Em,Dj];rfl)) E ?_;simp +decide only [go_sem,Nat.reduceAdd]
  refine FB (B.length+1) (by first | rfl | (simp only [FX,Ey,Em,Dj];rfl)) G ?_;simp +decide only [go_sem,Nat.reduceAdd]
  show D4 _ _ _ _ _ _ _ _ [(2,true,.box B.length 0),(4,true,.box (B.length+1) 0),(5,true,.val (.bool i)),(8,true,.list (a1.map AK) .none),(9,true,Am (a1.length:Int)),(10,true,Am c)] ⟨B++([d.cs,Am a.1::(.val (.string a.2.1)::(Am a.2.2.1::((a.2.2.2.1.cs)++([.list (a.2.2.2.2.map Di) .none]))))]++Xl6),Rl6,L⟩
  refine td Y K H g t ?_
  refine rg [2,4,5,8,9,10,11] hs ?_
  apply An;intro K8 J
  refine BQ h hs ?_ ?_<;>intro hs h
  rotate_left
  ·refine sx [4,5] hs Q ?_
   exact ⟨i,d,a,_,_,([]),Rl6,ef hs,ef hs,t,ef hs,ef hs,h⟩
  refine sk [2,4,8,9,10] hs J ?_
  clear J
  apply An;intro K10 w
  apply Aq
  obtain ⟨u,O,h⟩:=bind_some h
  obtain ⟨U,V,D⟩:=Bi O
  have F:=Bj (f:=AK) D
  have hs:=Ae F hs
  refine rg [2,4,7,8,9,10] hs ?_
  apply An;intro K13 v
  refine rg [2,4,7,8,9,10,21] hs ?_
  refine BQ h hs ?_ ?_<;>intro hs h
  ·refine rg [4,5] hs ?_
   exact rt h hs g t
  refine sk [2,4,7,8,9,10] hs v ?_
  clear v
  apply An;intro K17 z
  obtain ⟨C,N,h⟩:=bind_some h
  refine rc 2 [2,4,5,8,9,10] hs ?_;intro K18 y
  refine Aw _ (OZ w0 n _ _ _ d u.name _ N) (hv hs) ?_
  refine ne hs y ?_
  clear y
  refine rg [2,4,5,8,9,10,31] hs ?_
  refine BQ h hs ?_ ?_<;>intro hs h
  ·refine rg [4,5] hs ?_
   exact rt h hs g t
  refine sk [2,4,5,8,9,10] hs z ?_
  clear z
  refine rl [2,4,5,8,9,10] hs w ?_
  clear w
  obtain ⟨Z,h⟩:=Au h
  refine rl [2,4,5,8,9,10] hs (fun e s=>Vl6 ml6 e s (Nat.lt_succ_self _)) ?_
  exact ⟨C.2,(c+1),C.1.2.2.2.1,C.1,_,_,([Am u.kind::(Am u.index::([.val (.string u.name)]))]),Rl6,ef hs,ef hs,t,ef hs,ef hs,h⟩
 ·clear h;rintro e st ⟨p,k,b,q,l,Xk3,Rk3,rfl,rfl,t,E,G,h⟩
  rw [JP] at h
  refine FB B.length (by first | rfl | (simp only [FX,Ey,Em,Dj];rfl)) E ?_;simp +decide only [go_sem,Nat.reduceAdd]
  refine FB (B.length+1) (by first | rfl | (simp only [FX,Ey,Em,Dj];rfl)) G ?_;simp +decide only [go_sem,Nat.reduceAdd]
  show D4 _ _ _ _ _ _ _ _ [(4,true,.box (B.length+1) 0),(5,true,.val (.bool p))] ⟨B++([k.cs,Am b.1::(.val (.string b.2.1)::(Am b.2.2.1::((b.2.2.2.1.cs)++([.list (b.2.2.2.2.map Di) .none]))))]++Xk3),Rk3,L⟩
  refine td Y K H g t ?_
  refine rg [4,5] hs ?_
  exact rt h hs g t
def Jg (b:Part):Bool :=
 decide (b.kind=3)
theorem WN (w0:World) (B:Ao) (Rw:Av) (L:As) (a0:Part) (r:Bool) (h:Jg a0=r) :
  ACalls Tryz.prog w0 341 [.agg (Am a0.kind::(Am a0.index::([.val (.string a0.name)])))] ⟨B,Rw,L⟩ fun x st=>x = .val (.bool r)∧st=⟨B,Rw,L⟩:=by
 rw [Jg] at h
 refine hd [.tmp 2] Tryz.func341 Tryz.ntmps341 fun M0 W0 e b c a f d hs=>?_
 simp only [AA]
 refine rg [1] hs ?_
 refine rg [2] hs ?_
 exact rT h hs a d
theorem US (w0:World) (B:Ao) (Rw:Av) (L:As) (a0:Part) :
  ACalls Tryz.prog w0 341 [.agg (Am a0.kind::(Am a0.index::([.val (.string a0.name)])))] ⟨B,Rw,L⟩ fun x st=>x = .val (.bool (Jg a0))∧st=⟨B,Rw,L⟩:=WN w0 B Rw L a0 _ rfl
def N9 (n:Nat) (b:List Part):Option Bool :=
 (A3 n b (fun (h:Part)=>some (Jg h))).bind fun g =>
 some (g)
theorem Uy (w0:World) (n:Nat) (B:Ao) (Rw:Av) (L:As) (a0:List Part) (r:Bool) (h:N9 n a0=some r) :
  ACalls Tryz.prog w0 306 [.list (a0.map AK) .none] ⟨B,Rw,L⟩ fun x st=>x = .val (.bool r)∧st=⟨B,Rw,L⟩:=by
 rw [N9] at h
 refine hd [.tmp 2] Tryz.func306 Tryz.ntmps306 fun M0 W0 k c d a l e hs=>?_
 simp only [AA]
 refine rg [0] hs ?_
 obtain ⟨i,hy3,h⟩:=bind_some h
 refine rc 2 [2] hs ?_;intro K2 b
 refine Aw _ (Dv w0 n _ _ _ a0 341 [] (fun (x0:Part)=>some (Jg x0)) (fun x0 r hx j rows' g f=>by cases hx;exact US w0 _ _ _ x0) _ hy3) (hv hs) ?_
 refine ne hs b ?_
 clear b
 exact rt h hs a e
def GP (g:Part) (b:Vl):Bool :=
 if decide (g.kind=1) then
  decide (b.kind=9)
 else
  if decide (g.kind=4) then
   (decide (b.kind=10))&&(decide ((b.list.length:Int)=1))
  else
   decide (b.kind=8)
theorem Qp (w0:World) (B:Ao) (Rw:Av) (L:As) (a0:Part) (a1:Vl) (r:Bool) (h:GP a0 a1=r) :
  ACalls Tryz.prog w0 339 [.agg (Am a0.kind::(Am a0.index::([.val (.string a0.name)]))),.agg (a1.cs)] ⟨B,Rw,L⟩ fun x st=>x = .val (.bool r)∧st=⟨B,Rw,L⟩:=by
 rw [GP] at h
 refine hd [.tmp 4] Tryz.func339 Tryz.ntmps339 fun M0 W0 f c d b g e hs=>?_
 simp only [AA]
 exact go (tg (a:=([2,3],[3,6],[3,6,7],([4],()),[3,12],([4],()),[3],[4],()))) h hs f c d b e trivial trivial
theorem Pg (w0:World) (B:Ao) (Rw:Av) (L:As) (a0:Part) (a1:Vl) :
  ACalls Tryz.prog w0 339 [.agg (Am a0.kind::(Am a0.index::([.val (.string a0.name)]))),.agg (a1.cs)] ⟨B,Rw,L⟩ fun x st=>x = .val (.bool (GP a0 a1))∧st=⟨B,Rw,L⟩:=Qp w0 B Rw L a0 a1 _ rfl
def Jw (b:ByteArray × Vl) (g:ByteArray):Bool :=
 Gn b.1 g
theorem WV (w0:World) (B:Ao) (Rw:Av) (L:As) (a0:ByteArray × Vl) (la1:Nat) (a1:ByteArray) (hla1:B[la1]? = some ([.val (.string a1)])) (r:Bool) (h:Jw a0 a1=r) :
  ACalls Tryz.prog w0 373 [.agg (.val (.string a0.1)::(a0.2.cs)),.box la1 0] ⟨B,Rw,L⟩ fun x st=>x = .val (.bool r)∧st=⟨B,Rw,L⟩:=by
 rw [Jw] at h
 refine hd [.tmp 3] Tryz.func373 Tryz.ntmps373 fun M0 W0 f c d a g e hs=>?_
 simp only [AA]
 have b:=(Ak.1 hla1).1
 have hs:=Ae (Ar hla1) hs
 refine rg [1,2] hs ?_
 refine rg [3] hs ?_
 exact rT h hs a e
theorem UZ (w0:World) (B:Ao) (Rw:Av) (L:As) (a0:ByteArray × Vl) (la1:Nat) (a1:ByteArray) (hla1:B[la1]? = some ([.val (.string a1)])) :
  ACalls Tryz.prog w0 373 [.agg (.val (.string a0.1)::(a0.2.cs)),.box la1 0] ⟨B,Rw,L⟩ fun x st=>x = .val (.bool (Jw a0 a1))∧st=⟨B,Rw,L⟩:=WV w0 B Rw L a0 la1 a1 hla1 _ rfl
def Qq (n:Nat) (b:Vl) (h:ByteArray):Option Int :=
 (C7 n b.fields (fun (q:ByteArray × Vl)=>some (Jw q h))).bind fun g =>
 some (g)
theorem Zx (w0:World) (n:Nat) (B:Ao) (Rw:Av) (L:As) (a0:Vl) (a1:ByteArray) (r:Int) (h:Qq n a0 a1=some r) :
  ACalls Tryz.prog w0 363 [.agg (a0.cs),.val (.string a1)] ⟨B,Rw,L⟩ fun x st=>x=Am r∧st=⟨B,Rw,L⟩:=by
 rw [Qq] at h
 refine hd [.tmp 4] Tryz.func363 Tryz.ntmps363 fun M0 W0 j c d a k e hs=>?_
 simp only [AA]
 refine rg [2,3] hs ?_
 obtain ⟨g,hy3,h⟩:=bind_some h
 refine rc 2 [4] hs ?_;intro K2 b
 refine Aw _ (Iw w0 n _ _ _ a0.fields 373 [.box (B.length+1) 0] (fun (x0:ByteArray × Vl)=>some (Jw x0 a1)) (fun x0 r hx i rows' hB' f=>by cases hx;exact UZ w0 _ _ _ x0 _ a1 (D1 hB' ev)) _ hy3) (hv hs) ?_
 refine ne hs b ?_
 clear b
 exact rt h hs a e
def H8 (n:Nat)  : Option ((List Vl)) :=
 some ([])
def LK (n:Nat) (b:Part) (g:Vl):Option ((List Vl)) :=
 if decide (b.kind=1) then
  (Qq n g b.name).bind fun q =>
  if decide (0≤q) then
   (Cb g.fields q).bind fun h =>
   some ([h.2])
  else
   H8 n 
 else
  if (decide (b.kind=3))||((decide (b.kind=4))&&(Gn g.text b.name)) then
   some (g.list)
  else
   if (decide (b.kind=2))&&(decide (b.index<(g.list.length:Int))) then
    if A6 (b.index+1) then
     if 0≤b.index∧b.index≤b.index+1∧b.index+1≤(g.list.length:Int) then
      some ((g.list.take (b.index+1).toNat).drop b.index.toNat)
     else none
    else none
   else
    H8 n 
theorem SQ (w0:World) (n:Nat) (B:Ao) (Rw:Av) (L:As) (a0:Part) (a1:Vl) (r:(List Vl)) (h:LK n a0 a1=some r) :
  ACalls Tryz.prog w0 340 [.agg (Am a0.kind::(Am a0.index::([.val (.string a0.name)]))),.agg (a1.cs)] ⟨B,Rw,L⟩ fun x st=>x = .list (r.map Di) .none∧st=⟨B,Rw,L⟩:=by
 rw [LK] at h
 refine hd [.tmp 4] Tryz.func340 Tryz.ntmps340 fun M0 W0 i c d b j f hs=>?_
 simp only [AA]
 refine rg [2,3] hs ?_
 refine AB (fun e st=>Ck e st B Rw L [] [Am a0.kind::(Am a0.index::([.val (.string a0.name)])),a1.cs] [] (H8 n  = some r)) ?_ ?_
 ·intro K4 g
  exact go (tg (a:=([2,3,6],([3,5],[3,5,15],([4],()),[],()),[2,3,23],([4],()),[2,3,41],([4],()),[],()))) h hs i c d b f (q1 (Zx w0 n)) (q1 g)
 ·clear h;rintro e st ⟨Xk3,Rk3,rfl,rfl,f,h⟩
  rw [H8] at h
  refine td i c d b f ?_
  refine rg [4] hs ?_
  exact rt h hs b f
def Pz (n:Nat) (g:(List Vl)→Int→Option ((List Vl) × Int)) (b:Int) (h:List Vl):Option ((List Vl) × Int) :=
 if A6 (b+1) then
  g h (b+1)
 else none
def Ph (n:Nat)  (b:List Vl):Option ((List Vl) × Int) :=
 some ((b,0))
def PC (n:Nat)  (b:List Vl):Option ((List Vl) × Int) :=
 some ((b,0))
def O8 (n:Nat) (b:(List Vl)→Int→Option ((List Vl) × Int)) (g:Int) (h:List Vl):Option ((List Vl) × Int) :=
 Pz n b g h
def M4 (n:Nat) (q:List Vl):Nat→(List Vl)→(List Vl)→Int→Option ((List Vl) × Int)
 | 0,_,_,_=>none
 | m+1,g,h,b =>
  if decide (b<(q.length:Int)) then
   (Cb h b).bind fun z =>
   (Dt n z).bind fun y =>
   if (g.length+1)*88≤140737488355328∧g.length+1≤4611686018427387904 then
    if A6 (b+1) then
     (M4 n q m) (g++([y])) h (b+1)
    else none
   else none
  else
   Ph n g
def MJ (n:Nat) (q:List Vl):Nat→(List Vl)→(List Vl)→Int→Option ((List Vl) × Int)
 | 0,_,_,_=>none
 | m+1,b,h,g =>
  if decide (g<(q.length:Int)) then
   (Cb h g).bind fun z =>
   (Dt n z).bind fun y =>
   if (b.length+1)*88≤140737488355328∧b.length+1≤4611686018427387904 then
    if A6 (g+1) then
     (MJ n q m) (b++([y])) h (g+1)
    else none
   else none
  else
   PC n b
def MQ (n:Nat) (h:(List Vl)→Int→Option ((List Vl) × Int)) (z:List Vl) (q:Int) (x21:Part):Nat→(List Vl)→(List Vl)→Int→Option ((List Vl) × Int)
 | 0,_,_,_=>none
 | m+1,g,y,b =>
  if decide (b<(z.length:Int)) then
   (Cb y b).bind fun x33 =>
   if !(GP x21 x33) then
    some (([],22))
   else
    (LK n x21 x33).bind fun y38 =>
    if (g.length+y38.length)*88≤140737488355328∧g.length+y38.length≤4611686018427387904 then
     if A6 (b+1) then
      (MQ n h z q x21 m) (g++y38) y (b+1)
     else none
    else none
  else
   O8 n h q g
def PD (n:Nat) (h:List Part) (b:List Vl):Option ((List Vl) × Int) :=
 if decide ((b.length:Int)=0) then
  (N9 n h).bind fun g =>
  if !g then
   some (([],19))
  else
   M4 n b n ([]) b 0
 else
  MJ n b n ([]) b 0
def Hq (n:Nat) (h:List Part):Nat→(List Vl)→Int→Option ((List Vl) × Int)
 | 0,_,_=>none
 | m+1,g,b =>
  if decide (b<(h.length:Int)) then
   (Cb h b).bind fun q =>
   MQ n (Hq n h m) g b q n ([]) g 0
  else
   PD n h g
def Ud (n:Nat) (h:Vl) (b:List Part):Option ((List Vl) × Int) :=
 (IC n b).bind fun g =>
 if !(decide (g=0)) then
  some (([],g))
 else
  Hq n b n ([h]) 0
theorem ZbY (w0:World) (hP:Pow10 w0) (n:Nat) (B:Ao) (Rw:Av) (L:As) (a0:Vl) (a1:List Part) (r:(List Vl) × Int) (h:Ud n a0 a1=some r) :
  ACalls Tryz.prog w0 305 [.agg (a0.cs),.list (a1.map AK) .none] ⟨B,Rw,L⟩ fun x st=>x = .tup [.list (r.1.map Di) .none,Am r.2]∧st=⟨B,Rw,L⟩:=by
 rw [Ud] at h
 refine hd [.tmp 4,.tmp 5] Tryz.func305 Tryz.ntmps305 fun M0 W0 hN af ad j hu l hs=>?_
 simp only [AA]
 refine rg [1,2] hs ?_
 apply An;intro K2 bm
 obtain ⟨y4,b0,h⟩:=bind_some h
 refine rc 2 [1,2,6] hs ?_;intro K3 bp
 refine Aw _ (S5 w0 hP n _ _ _ a1 _ b0) (hv hs) ?_
 refine ne hs bp ?_
 clear bp
 refine rg [1,2,6,19] hs ?_
 refine BQ h hs ?_ ?_<;>intro hs h
 ·refine rg [4,5] hs ?_
  exact rt h hs j l
 refine sk [1,2] hs bm ?_
 clear bm
 refine rg [1,7] hs ?_
 refine AB (fun e st=>∃ (c:List Vl) (E:Ev.Own),Ck e st B Rw L [(1,true,.list (a1.map AK) .none),(7,true,.list (c.map Di) E)] [a0.cs] [(6,c.length,E)] (PD n a1 c=some r)) ?_ ?_
 ·intro K11 bk
  refine rg [1,7,23,24,25] hs ?_
  apply Aq
  refine AC (fun m e st=>∃ (k:List Vl) (b:Int) (D:Ev.Own),Ck e st B Rw L [(1,true,.list (a1.map AK) .none),(7,true,.list (k.map Di) D),(23,true,.list (a1.map AK) .none),(24,true,Am (a1.length:Int)),(25,true,Am b)] [a0.cs] [(6,k.length,D)] (Hq n a1 m k b=some r)) n ⟨([a0]),0,.full,([]),Rw,ef hs,ef hs,Owns.of_eq ((l).full 6 (([a0]).length)) D6,h⟩ ?_
  rintro ml13 e st ⟨k,b,D,Xl13,Rl13,rfl,rfl,l,h⟩ Ul13 Vl13
  cases ml13 with
  | zero=>cases h
  | succ ml13 =>
  rw [Hq] at h
  have hU:=l.unders
  simp only [List.mem_cons,List.not_mem_nil,or_false,forall_eq_or_imp,forall_eq] at hU
  refine td hN af ad j l ?_
  refine rg [1,7,23,24,25,26] hs ?_
  apply An;intro K15 au
  refine BQ h hs ?_ ?_<;>intro hs h
  rotate_left
  ·refine sx [1,7] hs bk ?_
   exact ⟨k,D,([]),Rl13,ef hs,ef hs,Owns.of_eq (l) D6,h⟩
  refine sk [1,7,23,24,25] hs au ?_
  clear au
  refine AB (fun e st=>∃ (aa:List Vl) (ab:Ev.Own),Ck e st B Rw L [(1,true,.list (a1.map AK) .none),(7,true,.list (aa.map Di) ab),(23,true,.list (a1.map AK) .none),(24,true,Am (a1.length:Int)),(25,true,Am b)] [a0.cs] [(6,aa.length,ab)] (Pz n (Hq n a1 ml13) b aa=some r)) ?_ ?_
  ·intro K19 bh
   apply Aq
   obtain ⟨ae,be,h⟩:=bind_some h
   obtain ⟨b2,b8,bc⟩:=Bi be
   have a4:=Bj (f:=AK) bc
   have hs:=Ae a4 hs
   refine rg [1,7,9,23,24,25] hs ?_
   refine rg [1,7,9,10,23,24,25] hs ?_
   refine AB (fun e st=>∃ (K:List Vl) (U:Ev.Own),Ck e st B Rw L [(1,true,.list (a1.map AK) .none),(10,true,.list (K.map Di) U),(23,true,.list (a1.map AK) .none),(24,true,Am (a1.length:Int)),(25,true,Am b)] [a0.cs,Am ae.kind::(Am ae.index::([.val (.string ae.name)]))] [(6,K.length,U)] (O8 n (Hq n a1 ml13) b K=some r)) ?_ ?_
   ·intro K25 bt
    refine rg [1,9,10,23,24,25,29,30,31] hs ?_
    apply Aq
    refine AC (fun m e st=>∃ (g:List Vl) (u:List Vl) (G:Int) (w:Ev.Own) (z:Ev.Own),Ck e st B Rw L [(1,true,.list (a1.map AK) .none),(9,true,.box (B.length+1) 0),(10,true,.list (g.map Di) w),(23,true,.list (a1.map AK) .none),(24,true,Am (a1.length:Int)),(25,true,Am b),(29,true,.list (u.map Di) z),(30,true,Am (k.length:Int)),(31,true,Am G)] [a0.cs,Am ae.kind::(Am ae.index::([.val (.string ae.name)]))] [(6,g.length,w),(6,u.length,z)] (MQ n (Hq n a1 ml13) k b ae m g u G=some r)) n ⟨([]),k,0,.full,D,([]),Rl13,ef hs,ef hs,Owns.of_eq ((l).full 6 0) D6,h⟩ ?_
    rintro ml27 e st ⟨g,u,G,w,z,Xl27,Rl27,rfl,rfl,l,h⟩ Ul27 Vl27
    cases ml27 with
    | zero=>cases h
    | succ ml27 =>
    rw [MQ] at h
    have hU:=l.unders
    simp only [List.mem_cons,List.not_mem_nil,or_false,forall_eq_or_imp,forall_eq] at hU
    obtain ⟨bj,bf⟩:=hU
    refine td hN af ad j l ?_
    refine rg [1,9,10,23,24,25,29,30,31,32] hs ?_
    apply An;intro K29 am
    refine BQ h hs ?_ ?_<;>intro hs h
    rotate_left
    ·refine sx [1,10,23,24,25] hs bt ?_
     exact ⟨g,w,([]),Rl27,ef hs,ef hs,Owns.of_eq ((l).sub (List.sublist_append_left [(6,g.length,w)] [(6,u.length,z)])) D6,h⟩
    refine sk [1,9,10,23,24,25,29,30,31] hs am ?_
    clear am
    apply An;intro K31 aw
    apply Aq
    obtain ⟨a9,bd,h⟩:=bind_some h
    obtain ⟨b9,b4,a6⟩:=Bi bd
    have a3:=Bj (f:=Di) a6
    have hs:=Ae a3 hs
    refine rg [1,9,10,12,23,24,25,29,30,31] hs ?_
    apply An;intro K34 az
    refine rc 2 [1,9,10,12,23,24,25,29,30,31,38] hs ?_;intro K35 aq
    refine Aw _ (Pg w0 _ _ _ ae a9) (hv hs) ?_
    refine ne hs aq ?_
    clear aq
    refine BQ h hs ?_ ?_<;>intro hs h
    ·refine rg [4,5] hs ?_
     exact rt h hs j l
    refine sk [1,9,10,12,23,24,25,29,30,31] hs az ?_
    clear az
    obtain ⟨bb,bl,h⟩:=bind_some h
    obtain ⟨ax,h⟩:=Au h
    obtain ⟨bw,ak,l,Q⟩:=l.append (P:=Tryz.prog) LM (by rw [Ha];rfl) (by decide) bb.length ax.1 ax.2
    replace Q:=fun (ys:List AV) B L o2=>Q (g.map Di) ys B L o2 D6
    replace Q:=fun B L o2=>Q (bb.map Di) B L o2 D6 ev
    try simp only [List.mem_singleton,List.mem_cons,List.not_mem_nil,or_false,forall_eq_or_imp,forall_eq,List.map_append,List.map_cons,List.map_nil,GE,GA,Gj,EQ,EO,F7,Dp,Ek,Ge,CP,CJ,EF,Ez,Et,Gi,Ew,F5] at Q
    have hs:=Ae Q hs
    refine rk 2 [1,9,10,23,24,25,29,30,31] hs ?_
    refine Aw _ (SQ w0 n _ _ _ ae a9 _ bl) (hv hs) ?_
    refine ne hs aw ?_
    clear aw
    obtain ⟨cd,h⟩:=Au h
    refine rl [1,9,10,23,24,25,29,30,31] hs (fun e s=>Vl27 ml27 e s (Nat.lt_succ_self _)) ?_
    exact ⟨(g++bb),u,(G+1),bw,z,([a9.cs]),ak,ef hs,ef hs,Owns.of_eq (((l).swap (List.Perm.swap _ _ _)).swap (List.Perm.swap _ _ _)) D6,h⟩
   ·clear h;rintro e st ⟨K,U,Xk24,Rk24,rfl,rfl,l,h⟩
    rw [O8] at h
    exact go (tg (a:=([1,7,23,24,25],()))) h hs hN af ad j l trivial (q1 bh)
  ·clear h;rintro e st ⟨aa,ab,Xk18,Rk18,rfl,rfl,l,h⟩
   rw [Pz] at h
   exact go (tg (a:=([1,7,23,24,25],()))) h hs hN af ad j l trivial (q1 (fun e s=>Vl13 ml13 e s (Nat.lt_succ_self _)))
 ·clear h;rintro e st ⟨c,E,Xk10,Rk10,rfl,rfl,l,h⟩
  rw [PD] at h
  have hU:=l.unders
  simp only [List.mem_cons,List.not_mem_nil,or_false,forall_eq_or_imp,forall_eq] at hU
  refine td hN af ad j l ?_
  apply An;intro K45 ag
  apply An;intro K46 ah
  rcases Bool.eq_false_or_eq_true (decide ((c.length:Int)=0)) with hf47 | hf47
  ·replace h:=A7 h hf47
   obtain ⟨ce,bu,h⟩:=bind_some h
   have hs:=Ae hf47 hs
   refine rk 2 [7,54] hs ?_
   refine Aw _ (Uy w0 n _ _ _ a1 _ bu) (hv hs) ?_
   refine ne hs ah ?_
   clear ah
   refine BQ h hs ?_ ?_<;>intro hs h
   ·refine rg [4,5] hs ?_
    exact rt h hs j l
   refine sk [7] hs ag ?_
   clear ag
   refine rg [7,13] hs ?_
   refine AB (fun e st=>∃ (F:List Vl) (Z:Ev.Own),Ck e st B Rw L [(13,true,.list (F.map Di) Z)] [a0.cs] [(6,F.length,Z)] (Ph n F=some r)) ?_ ?_
   ·intro K54 bo
    refine rg [13,55,56,57] hs ?_
    apply Aq
    refine AC (fun m e st=>∃ (d:List Vl) (C:List Vl) (J:Int) (t:Ev.Own) (v:Ev.Own),Ck e st B Rw L [(13,true,.list (d.map Di) t),(55,true,.list (C.map Di) v),(56,true,Am (c.length:Int)),(57,true,Am J)] [a0.cs] [(6,d.length,t),(6,C.length,v)] (M4 n c m d C J=some r)) n ⟨([]),c,0,.full,E,([]),Rk10,ef hs,ef hs,Owns.of_eq ((l).full 6 0) D6,h⟩ ?_
    rintro ml56 e st ⟨d,C,J,t,v,Xl56,Rl56,rfl,rfl,l,h⟩ Ul56 Vl56
    cases ml56 with
    | zero=>cases h
    | succ ml56 =>
    rw [M4] at h
    have hU:=l.unders
    simp only [List.mem_cons,List.not_mem_nil,or_false,forall_eq_or_imp,forall_eq] at hU
    obtain ⟨bj,bf⟩:=hU
    refine td hN af ad j l ?_
    refine rg [13,55,56,57,58] hs ?_
    apply An;intro K58 ay
    refine BQ h hs ?_ ?_<;>intro hs h
    rotate_left
    ·refine sx [13] hs bo ?_
     exact ⟨d,t,([]),Rl56,ef hs,ef hs,Owns.of_eq ((l).sub (List.sublist_append_left [(6,d.length,t)] [(6,C.length,v)])) D6,h⟩
    refine sk [13,55,56,57] hs ay ?_
    clear ay
    apply An;intro K60 ar
    apply Aq
    obtain ⟨bv,br,h⟩:=bind_some h
    obtain ⟨b5,b3,ba⟩:=Bi br
    have a7:=Bj (f:=Di) ba
    have hs:=Ae a7 hs
    refine rg [13,15,55,56,57] hs ?_
    obtain ⟨b6,bn,h⟩:=bind_some h
    obtain ⟨ap,h⟩:=Au h
    obtain ⟨bx,aj,l,Y⟩:=l.append (P:=Tryz.prog) LM (by rw [Ha];rfl) (by decide) 1 ap.1 ap.2
    replace Y:=fun (ys:List AV) B L o2=>Y (d.map Di) ys B L o2 D6
    replace Y:=fun (y:AV) B L o2=>Y [y] B L o2 D6 ev
    try simp only [List.mem_singleton,List.mem_cons,List.not_mem_nil,or_false,forall_eq_or_imp,forall_eq,List.map_append,List.map_cons,List.map_nil,GE,GA,Gj,EQ,EO,F7,Dp,Ek,Ge,CP,CJ,EF,Ez,Et,Gi,Ew,F5] at Y
    have hs:=Ae Y hs
    refine rk 2 [13,55,56,57] hs ?_
    refine Aw _ (IJ w0 n _ _ _ bv _ bn) (hv hs) ?_
    refine ne hs ar ?_
    clear ar
    obtain ⟨cb,h⟩:=Au h
    refine rl [13,55,56,57] hs (fun e s=>Vl56 ml56 e s (Nat.lt_succ_self _)) ?_
    exact ⟨(d++([b6])),C,(J+1),bx,v,([bv.cs]),aj,ef hs,ef hs,Owns.of_eq (((l).swap (List.Perm.swap _ _ _)).swap (List.Perm.swap _ _ _)) D6,h⟩
   ·clear h;rintro e st ⟨F,Z,Xk53,Rk53,rfl,rfl,l,h⟩
    rw [Ph] at h
    exact go (tg (a:=([4,5],()))) h hs hN af ad j l trivial trivial
  ·replace h:=A8 h hf47
   have hs:=Ae hf47 hs
   refine rk 2 [7,54] hs ?_
   refine Hz ?_
   refine ne hs ah ?_
   clear ah
   refine A4 false ev (ef hs) (fun hb70=>by cases hb70) (fun hb70=>?_)
   refine sk [7] hs ag ?_
   clear ag
   refine rg [7,13] hs ?_
   refine AB (fun e st=>∃ (H:List Vl) (O:Ev.Own),Ck e st B Rw L [(13,true,.list (H.map Di) O)] [a0.cs] [(6,H.length,O)] (PC n H=some r)) ?_ ?_
   ·intro K74 bs
    refine rg [13,55,56,57] hs ?_
    apply Aq
    refine AC (fun m e st=>∃ (i:List Vl) (q:List Vl) (N:Int) (o:Ev.Own) (p:Ev.Own),Ck e st B Rw L [(13,true,.list (i.map Di) o),(55,true,.list (q.map Di) p),(56,true,Am (c.length:Int)),(57,true,Am N)] [a0.cs] [(6,i.length,o),(6,q.length,p)] (MJ n c m i q N=some r)) n ⟨([]),c,0,.full,E,([]),Rk10,ef hs,ef hs,Owns.of_eq ((l).full 6 0) D6,h⟩ ?_
    rintro ml76 e st ⟨i,q,N,o,p,Xl76,Rl76,rfl,rfl,l,h⟩ Ul76 Vl76
    cases ml76 with
    | zero=>cases h
    | succ ml76 =>
    rw [MJ] at h
    have hU:=l.unders
    simp only [List.mem_cons,List.not_mem_nil,or_false,forall_eq_or_imp,forall_eq] at hU
    obtain ⟨bj,bf⟩:=hU
    refine td hN af ad j l ?_
    refine rg [13,55,56,57,58] hs ?_
    apply An;intro K78 a2
    refine BQ h hs ?_ ?_<;>intro hs h
    rotate_left
    ·refine sx [13] hs bs ?_
     exact ⟨i,o,([]),Rl76,ef hs,ef hs,Owns.of_eq ((l).sub (List.sublist_append_left [(6,i.length,o)] [(6,q.length,p)])) D6,h⟩
    refine sk [13,55,56,57] hs a2 ?_
    clear a2
    apply An;intro K80 ao
    apply Aq
    obtain ⟨bq,bg,h⟩:=bind_some h
    obtain ⟨b7,bz,a8⟩:=Bi bg
    have a5:=Bj (f:=Di) a8
    have hs:=Ae a5 hs
    refine rg [13,15,55,56,57] hs ?_
    obtain ⟨ca,bi,h⟩:=bind_some h
    obtain ⟨av,h⟩:=Au h
    obtain ⟨b1,ai,l,V⟩:=l.append (P:=Tryz.prog) LM (by rw [Ha];rfl) (by decide) 1 av.1 av.2
    replace V:=fun (ys:List AV) B L o2=>V (i.map Di) ys B L o2 D6
    replace V:=fun (y:AV) B L o2=>V [y] B L o2 D6 ev
    try simp only [List.mem_singleton,List.mem_cons,List.not_mem_nil,or_false,forall_eq_or_imp,forall_eq,List.map_append,List.map_cons,List.map_nil,GE,GA,Gj,EQ,EO,F7,Dp,Ek,Ge,CP,CJ,EF,Ez,Et,Gi,Ew,F5] at V
    have hs:=Ae V hs
    refine rk 2 [13,55,56,57] hs ?_
    refine Aw _ (IJ w0 n _ _ _ bq _ bi) (hv hs) ?_
    refine ne hs ao ?_
    clear ao
    obtain ⟨cc,h⟩:=Au h
    refine rl [13,55,56,57] hs (fun e s=>Vl76 ml76 e s (Nat.lt_succ_self _)) ?_
    exact ⟨(i++([ca])),q,(N+1),b1,p,([bq.cs]),ai,ef hs,ef hs,Owns.of_eq (((l).swap (List.Perm.swap _ _ _)).swap (List.Perm.swap _ _ _)) D6,h⟩
   ·clear h;rintro e st ⟨H,O,Xk73,Rk73,rfl,rfl,l,h⟩
    rw [PC] at h
    exact go (tg (a:=([4,5],()))) h hs hN af ad j l trivial trivial
def Xh (n:Nat) (y:Vl) (h:List Part):Option (Vl × Int) :=
 (Ud n y h).bind fun b =>
 if !(decide (b.2=0)) then
  some ((Vl.mk 0 0 0 (⟨#[]⟩:ByteArray) ([]) ([]),b.2))
 else
  (N9 n h).bind fun q =>
  if q then
   some ((Vl.mk 8 0 0 (⟨#[]⟩:ByteArray) b.1 ([]),0))
  else
   (Cb b.1 0).bind fun g =>
   some ((g,0))
theorem ZdG (w0:World) (hP:Pow10 w0) (n:Nat) (B:Ao) (Rw:Av) (L:As) (a0:Vl) (a1:List Part) (r:Vl × Int) (h:Xh n a0 a1=some r) :
  ACalls Tryz.prog w0 244 [.agg (a0.cs),.list (a1.map AK) .none] ⟨B,Rw,L⟩ fun x st=>x = .tup [.agg (r.1.cs),Am r.2]∧st=⟨B,Rw,L⟩:=by
 rw [Xh] at h
 refine hd [.cell 4 34,.tmp 5] Tryz.func244 Tryz.ntmps244 fun M0 W0 f c d b g e hs=>?_
 simp only [AA]
 exact go (tg (a:=([1,2,4],[1,4,6,7],[1,4,6,7,14],([4,5],()),[4,6,19],([4,5],()),[4,6],[4,5],()))) h hs f c d b e (q2 (ZbY w0 hP n) (Uy w0 n)) trivial
def Cm (n:Nat)  (b2_k31:Vl):Option (Ex × Bool × Bool) :=
 some ((Ex.mk 1 0 (⟨#[]⟩:ByteArray) ([b2_k31]) ([]),true,true))
def BL (n:Nat)  : Option (Ex × Bool × Bool) :=
 some ((Ex.mk 0 0 (⟨#[]⟩:ByteArray) ([]) ([]),false,false))
def CH (n:Nat) (a0:Cps) (g:List Part):Nat→Int→Option (Ex × Bool × Bool)
 | 0,_=>none
 | m+1,b =>
  if decide (b<(g.length:Int)) then
   if A6 (b+1) then
    if 0≤0∧0≤b+1∧b+1≤(g.length:Int) then
     if A6 (b+1) then
      if 0≤b+1∧b+1≤(g.length:Int)∧(g.length:Int)≤(g.length:Int) then
       (Ic n a0.mid (g.take (b+1).toNat)).bind fun h =>
       (E5 n a0 (g.take (b+1).toNat)).bind fun y =>
       if (!h.2)||((decide (h.1.2.2.1=2))&&(!y)) then
        BL n 
       else
        if (!(decide (h.1.2.2.1=3)))||y then
         if A6 (b+1) then
          (CH n a0 g m) (b+1)
         else none
        else
         (Cb h.1.2.2.2.2 0).bind fun q =>
         if decide (0<(((g.drop (b+1).toNat).length:Int))) then
          (Xh n q (g.drop (b+1).toNat)).bind fun z =>
          if !(decide (z.2=0)) then
           BL n 
          else
           Cm n z.1
         else
          Cm n q
      else none
     else none
    else none
   else none
  else
   BL n 
def EG (n:Nat) (b:Cps) (g:List Part):Option (Ex × Bool × Bool) :=
 CH n b g n 0
theorem KW (w0:World) (hP:Pow10 w0) (n:Nat) (B:Ao) (Rw:Av) (L:As) (la0:Nat) (a0:Cps) (hla0:B[la0]? = some (.list (a0.rules.map A5) .none::(.list (a0.targets.map (Jc AK)) .none::(a0.mid.cs)))) (a1:List Part) (r:Ex × Bool × Bool) (h:EG n a0 a1=some r) :
  ACalls Tryz.prog w0 164 [.box la0 0,.list (a1.map AK) .none] ⟨B,Rw,L⟩ fun x st=>x = .tup [.agg (r.1.cs),.val (.bool r.2.1),.val (.bool r.2.2)]∧st=⟨B,Rw,L⟩:=by
 rw [EG] at h
 refine hd [.cell 4 65,.tmp 5,.tmp 6] Tryz.func164 Tryz.ntmps164 fun M0 W0 E l k b hu j hs=>?_
 simp only [AA]
 have U:=(Ak.1 hla0).1
 have hs:=Ae (Ar hla0) hs
 refine rg [0,1,4] hs ?_
 refine AB (fun e st=>Ck e st B Rw L [(4,true,.box B.length 0)] [[Am 0,Am 0,.val (.string (⟨#[]⟩:ByteArray)),.list ([]) .full,.list ([]) .full]] [] (BL n  = some r)) ?_ ?_
 ·intro K4 C
  refine rg [0,1,4,17,18] hs ?_
  apply Aq
  refine AC (fun m e st=>∃ (c:Int),Ck e st B Rw L [(0,true,.box la0 0),(1,true,.list (a1.map AK) .none),(4,true,.box B.length 0),(17,true,Am (a1.length:Int)),(18,true,Am c)] [[Am 0,Am 0,.val (.string (⟨#[]⟩:ByteArray)),.list ([]) .full,.list ([]) .full]] [] (CH n a0 a1 m c=some r)) n ⟨0,([]),Rw,ef hs,ef hs,j,h⟩ ?_
  rintro ml6 e st ⟨c,Xl6,Rl6,rfl,rfl,j,h⟩ Ul6 Vl6
  cases ml6 with
  | zero=>cases h
  | succ ml6 =>
  rw [CH] at h
  refine td E l k b j ?_
  refine rg [0,1,4,17,18,19] hs ?_
  apply An;intro K8 Q
  refine BQ h hs ?_ ?_<;>intro hs h
  rotate_left
  ·refine sx [4] hs C ?_
   exact ⟨([]),Rl6,ef hs,ef hs,j,h⟩
  refine sk [0,1,4,17,18] hs Q ?_
  clear Q
  apply An;intro K10 K
  apply Aq
  refine rg [0,1,4,7,17,18] hs ?_
  obtain ⟨ae,h⟩:=Au h
  obtain ⟨ab,h⟩:=Au h
  obtain ⟨aa,h⟩:=Au h
  obtain ⟨ad,h⟩:=Au h
  refine dg 10 1 1 [0,1,4,8,9,17,18] hs PH ?_
  obtain ⟨i,H,h⟩:=bind_some h
  refine rc 2 [0,1,4,8,9,10,11,17,18] hs ?_;intro K17 y
  refine Aw _ (M8 w0 n _ _ _ a0.mid (a1.take (c+1).toNat) _ H) (hv hs) ?_
  refine ne hs y ?_
  clear y
  obtain ⟨af,N,h⟩:=bind_some h
  refine rc 2 [0,1,4,9,10,11,12,17,18] hs ?_;intro K19 v
  refine Aw _ (LY w0 n _ _ _ la0 a0 (ef hs) (a1.take (c+1).toNat) _ N) (hv hs) ?_
  refine ne hs v ?_
  clear v
  apply An;intro K21 p
  refine rg [0,1,4,9,10,12,17,18,51] hs ?_
  refine BQ h hs ?_ ?_<;>intro hs h
  ·exact go (tg (a:=([4],()))) h hs E l k b j trivial (q1 C)
  refine sk [0,1,4,9,10,12,17,18] hs p ?_
  clear p
  apply An;intro K24 q
  refine rg [0,1,4,9,10,17,18,57] hs ?_
  refine BQ h hs ?_ ?_<;>intro hs h
  ·exact go (tg (a:=([0,1,4,17,18],[0,1,4,17,18],()))) h hs E l k b j trivial (q2 K (fun e s=>Vl6 ml6 e s (Nat.lt_succ_self _)))
  refine sk [4,9,10] hs q ?_
  clear q
  obtain ⟨O,F,h⟩:=bind_some h
  obtain ⟨V,Z,D⟩:=Bi F
  have o:=Bj (f:=Di) D
  have z:(i.1.2.2.2.2.map Di).getD 0 .junk=_:=o
  have hs:=Ae o hs
  have hs:=Ae z hs
  refine rg [4,9,13] hs ?_
  refine AB (fun e st=>∃ (d:Vl) (g:List AV),Ck e st B Rw L [(4,true,.box B.length 0),(13,true,.box (B.length+2) 0)] [[Am 0,Am 0,.val (.string (⟨#[]⟩:ByteArray)),.list ([]) .full,.list ([]) .full],Am i.1.1::(.val (.string i.1.2.1)::(Am i.1.2.2.1::((i.1.2.2.2.1.cs)++([.list (i.1.2.2.2.2.map Di) .none])))),g] [] (g.map AV.pubCell=d.cs∧Cm n d=some r)) ?_ ?_
  ·intro K32 t
   refine rg [4,9,13,64] hs ?_
   refine BQ h hs ?_ ?_<;>intro hs h
   ·obtain ⟨J,G,h⟩:=bind_some h
    refine rc 2 [4,13,14,15] hs ?_;intro K35 w
    refine Aw _ (ZdG w0 hP n _ _ _ O (a1.drop (c+1).toNat) _ G) (hv hs) ?_
    refine ne hs w ?_
    clear w
    apply An;intro K37 u
    refine rg [4,13,14,72] hs ?_
    refine BQ h hs ?_ ?_<;>intro hs h
    ·exact go (tg (a:=([4],()))) h hs E l k b j trivial (q1 C)
    refine sk [4,13,14] hs u ?_
    clear u
    refine rl [4,13] hs t ?_
    exact ⟨J.1,_,([J.1.cs]),Rl6,ef hs,ef hs,j,ef hs,h⟩
   refine sk [4,13] hs t ?_
   exact ⟨O,_,([]),Rl6,ef hs,ef hs,j,ef hs,h⟩
  ·clear h;rintro e st ⟨d,g,Xk31,Rk31,rfl,rfl,j,Y,h⟩
   rw [Cm] at h
   refine FB (B.length+2) (by first | rfl | (simp only [FX,Ey,Em,Dj];rfl)) Y ?_;simp +decide only [go_sem,Nat.reduceAdd]
   show D4 _ _ _ _ _ _ _ _ [(4,true,.box B.length 0),(13,true,.box (B.length+2) 0)] ⟨B++([[Am 0,Am 0,.val (.string (⟨#[]⟩:ByteArray)),.list ([]) .full,.list ([]) .full],Am i.1.1::(.val (.string i.1.2.1)::(Am i.1.2.2.1::((i.1.2.2.2.1.cs)++([.list (i.1.2.2.2.2.map Di) .none])))),d.cs]++Xk31),Rk31,L⟩
   refine td E l k b j ?_
   refine rg [4,5,6] hs ?_
   exact rt h hs b j
 ·clear h;rintro e st ⟨Xk3,Rk3,rfl,rfl,j,h⟩
  rw [BL] at h
  refine td E l k b j ?_
  refine rg [4,5,6] hs ?_
  exact rt h hs b j
def BW (n:Nat) (b:List Part) (g:List Part):Option Bool :=
 if decide (0<(b.length:Int)) then
  (CY n g b).bind fun h =>
  some (h)
 else
  some (false)
theorem Jb (w0:World) (n:Nat) (B:Ao) (Rw:Av) (L:As) (a0:List Part) (la1:Nat) (a1:List Part) (hla1:B[la1]? = some ([.list (a1.map AK) .none])) (r:Bool) (h:BW n a0 a1=some r) :
  ACalls Tryz.prog w0 163 [.list (a0.map AK) .none,.box la1 0] ⟨B,Rw,L⟩ fun x st=>x = .val (.bool r)∧st=⟨B,Rw,L⟩:=by
 rw [BW] at h
 refine hd [.tmp 3] Tryz.func163 Tryz.ntmps163 fun M0 W0 g d e b i f hs=>?_
 simp only [AA]
 have c:=(Ak.1 hla1).1
 have hs:=Ae (Ar hla1) hs
 exact go (tg (a:=([0,1],([3],()),[3],()))) h hs g d e b f (q1 (Dh w0 n)) trivial
def EB (rec:Ty→Option Bool) (b:Int × ByteArray × Int × Ty × List Vl):Option Bool :=
 if decide (b.2.2.1=3) then
  some (true)
 else
  (rec b.2.2.2.1).bind fun g =>
  some (g)
theorem Nv (w0:World) (rec:Ty→Option Bool) (ih:∀ (B:Ao) (Rw:Av) (L:As) (a0:Ty) (r:Bool) (h:rec a0=some r),ACalls Tryz.prog w0 166 [.agg (a0.cs)] ⟨B,Rw,L⟩ fun x st=>x = .val (.bool r)∧st=⟨B,Rw,L⟩) (B:Ao) (Rw:Av) (L:As) (a0:Int × ByteArray × Int × Ty × List Vl) (r:Bool) (h:EB rec a0=some r) :
  ACalls Tryz.prog w0 246 [.agg (Am a0.1::(.val (.string a0.2.1)::(Am a0.2.2.1::((a0.2.2.2.1.cs)++([.list (a0.2.2.2.2.map Di) .none])))))] ⟨B,Rw,L⟩ fun x st=>x = .val (.bool r)∧st=⟨B,Rw,L⟩:=by
 rw [EB] at h
 refine hd [.tmp 2] Tryz.func246 Tryz.ntmps246 fun M0 W0 f c d b g e hs=>?_
 simp only [AA]
 exact go (tg (a:=([1],([2],()),[2],()))) h hs f c d b e (q1 ih) trivial
def Gh (n:Nat)  : Option Int :=
 some ((-1))
def EC (n:Nat) (q:List Ty) (y:Ty→Option Bool):Nat→Int→Option Int
 | 0,_=>none
 | m+1,b =>
  if decide (b<(q.length:Int)) then
   (Cb q b).bind fun g =>
   (y g).bind fun h =>
   if h then
    some (b)
   else
    if A6 (b+1) then
     (EC n q y m) (b+1)
    else none
  else
   Gh n 
def G4 (n:Nat) (b:List Ty) (g:Ty→Option Bool):Option Int :=
 EC n b g n 0
theorem NT (w0:World) (n:Nat) (B:Ao) (Rw:Av) (L:As) (a0:List Ty) (fa1:FuncId) (ca1:List AV) (a1:Ty→Option Bool) (ha1:∀ (x0:Ty) r,a1 x0=some r→∀ B' rows,B <+: B'→Rw <+: rows→ACalls Tryz.prog w0 fa1 ([.agg (x0.cs)]++ca1) ⟨B',rows,L⟩ fun v s=>v = .val (.bool r)∧s=⟨B',rows,L⟩) (r:Int) (h:G4 n a0 a1=some r) :
  ACalls Tryz.prog w0 307 [.list (a0.map J1) .none,.clo fa1 ca1] ⟨B,Rw,L⟩ fun x st=>x=Am r∧st=⟨B,Rw,L⟩:=by
 rw [G4] at h
 refine hd [.tmp 4] Tryz.func307 Tryz.ntmps307 fun M0 W0 k g i c l f hs=>?_
 simp only [AA]
 have b:=B6 (l (.clo fa1 ca1) (by simp))
 refine rg [0,1] hs ?_
 refine AB (fun e st=>Ck e st B Rw L [] [] [] (Gh n  = some r)) ?_ ?_
 ·intro K4 j
  refine rg [0,1,7,8] hs ?_
  apply Aq
  refine AC (fun m e st=>∃ (d:Int),Ck e st B Rw L [(0,true,.list (a0.map J1) .none),(1,true,.clo fa1 ca1),(7,true,Am (a0.length:Int)),(8,true,Am d)] [] [] (EC n a0 a1 m d=some r)) n ⟨0,([]),Rw,ef hs,ef hs,f,h⟩ ?_
  rintro ml6 e st ⟨d,Xl6,Rl6,rfl,rfl,f,h⟩ Ul6 Vl6
  cases ml6 with
  | zero=>cases h
  | succ ml6 =>
  rw [EC] at h
  refine A9 k g i rfl c f (OJ b f) (OJ b f) ?_
  exact go (tg (a:=([0,1,7,8,9],([0,1,7,8],[0,1,5,7,8],[0,1,5,7,8,16],([4],()),[0,1,7,8],[0,1,7,8],()),[],()))) h hs k g i c f (q1 ha1) (q2 j (fun e s=>Vl6 ml6 e s (Nat.lt_succ_self _)))
 ·clear h;rintro e st ⟨Xk3,Rk3,rfl,rfl,f,h⟩
  rw [Gh] at h
  refine A9 k g i rfl c f (OJ b f) (OJ b f) ?_
  refine rg [4] hs ?_
  exact rt h hs c f
def Fa (n:Nat) (b:List Ty) (h:Ty→Option Bool):Option Bool :=
 (G4 n b h).bind fun g =>
 some (decide (0≤g))
theorem HV (w0:World) (n:Nat) (B:Ao) (Rw:Av) (L:As) (a0:List Ty) (fa1:FuncId) (ca1:List AV) (a1:Ty→Option Bool) (ha1:∀ (x0:Ty) r,a1 x0=some r→∀ B' rows,B <+: B'→Rw <+: rows→ACalls Tryz.prog w0 fa1 ([.agg (x0.cs)]++ca1) ⟨B',rows,L⟩ fun v s=>v = .val (.bool r)∧s=⟨B',rows,L⟩) (r:Bool) (h:Fa n a0 a1=some r) :
  ACalls Tryz.prog w0 245 [.list (a0.map J1) .none,.clo fa1 ca1] ⟨B,Rw,L⟩ fun x st=>x = .val (.bool r)∧st=⟨B,Rw,L⟩:=by
 rw [Fa] at h
 refine hd [.tmp 4] Tryz.func245 Tryz.ntmps245 fun M0 W0 o i j b l g hs=>?_
 simp only [AA]
 have d:=B6 (l (.clo fa1 ca1) (by simp))
 refine rg [0,1] hs ?_
 obtain ⟨m,f,h⟩:=bind_some h
 refine rc 2 [4] hs ?_;intro K2 c
 refine Aw _ (NT w0 n _ _ _ a0 fa1 ca1 a1 (fun x0 r k e a q1 q2=>ha1 x0 r k e a (List.IsPrefix.trans px q1) (g.pre.trans q2)) _ f) (hv hs) ?_
 refine ne hs c ?_
 clear c
 exact rt h hs b g
def HH (rec:Ty→Option Bool) (n:Nat) (g:Ty):Option Bool :=
 (Fa n g.elem (fun (b:Ty)=>rec b)).bind fun q =>
 if q then
  some (true)
 else
  (AO n g.fields (fun (b:Int × ByteArray × Int × Ty × List Vl)=>EB rec b)).bind fun h =>
  some (h)
def Fb:Nat→Ty→Option Bool
 | 0,_=>none
 | n+1,b=>HH (Fb n) n b
def Hv (w0:World) (F:Ty→Option Bool):Prop:=∀ (B:Ao) (Rw:Av) (L:As) (b:Ty) (r:Bool),F b=some r→ACalls Tryz.prog w0 166 [.agg (b.cs)] ⟨B,Rw,L⟩ fun x st=>x = .val (.bool r)∧st=⟨B,Rw,L⟩
theorem Nu (w0:World) (rec:Ty→Option Bool) (ih:Hv w0 rec) (n:Nat):Hv w0 (HH rec n):=by
 intro B Rw L a0 r h
 rw [HH] at h
 refine hd [.tmp 2] Tryz.func166 Tryz.ntmps166 fun M0 W0 q l m b s j hs=>?_
 simp only [AA]
 refine rg [1] hs ?_
 apply An;intro K2 c
 obtain ⟨o,e,h⟩:=bind_some h
 rcases Bool.eq_false_or_eq_true (o) with hf4 | hf4
 ·replace h:=A7 h hf4
  have hs:=Ae hf4 hs
  refine rk 3 [2] hs ?_
  refine Aw _ (HV w0 n _ _ _ a0.elem 166 [] (fun (a:Ty)=>rec a) (fun a r f k rows' g d=>by exact ih _ _ _ a _ f) _ e) (hv hs) ?_
  refine nc hs ?_
  refine Hz ?_
  refine ne hs c ?_
  clear c
  exact rt h hs b j
 ·replace h:=A8 h hf4
  obtain ⟨p,i,h⟩:=bind_some h
  have hs:=Ae hf4 hs
  refine rk 3 [2] hs ?_
  refine Aw _ (HV w0 n _ _ _ a0.elem 166 [] (fun (a:Ty)=>rec a) (fun a r f k rows' g d=>by exact ih _ _ _ a _ f) _ e) (hv hs) ?_
  refine nc hs ?_
  refine Aw _ (DC w0 n _ _ _ a0.fields 246 [] (fun (a:Int × ByteArray × Int × Ty × List Vl)=>EB rec a) (fun a r f k rows' g d=>by exact Nv w0 rec ih _ _ _ a _ f) _ i) (hv hs) ?_
  refine ne hs c ?_
  clear c
  exact rt h hs b j
theorem JS (w0:World):∀ n:Nat,Hv w0 (Fb n)
 | 0=>fun _ _ _ _ _ h=>(nomatch h)
 | n+1=>Nu w0 (Fb n) (JS w0 n) n
def Kt (n:Nat)  (b:ByteArray):Option ByteArray :=
 some (b)
def H2 (n:Nat) (y:List Part):Nat→ByteArray→Int→Option ByteArray
 | 0,_,_=>none
 | m+1,h,g =>
  if decide (g<(y.length:Int)) then
   (Cb y g).bind fun q =>
   (Ib n ([Part.mk 1 0 ((⟨#[120]⟩:ByteArray)),q])).bind fun b =>
   if 0≤(if (b.1.size:Int)<1 then (b.1.size:Int) else 1)∧(if (b.1.size:Int)<1 then (b.1.size:Int) else 1)≤(b.1.size:Int)∧(b.1.size:Int)≤(b.1.size:Int) then
    if h.size+(b.1.extract ((if (b.1.size:Int)<1 then (b.1.size:Int) else 1)).toNat b.1.size).size≤9223372036854775807 then
     if A6 (g+1) then
      (H2 n y m) (h++(b.1.extract ((if (b.1.size:Int)<1 then (b.1.size:Int) else 1)).toNat b.1.size)) (g+1)
     else none
    else none
   else none
  else
   Kt n h
def I7 (n:Nat) (b:ByteArray) (g:List Part):Option ByteArray :=
 H2 n g n b 0
theorem Nx (w0:World) (hP:Pow10 w0) (n:Nat) (B:Ao) (Rw:Av) (L:As) (a0:ByteArray) (a1:List Part) (r:ByteArray) (h:I7 n a0 a1=some r) :
  ACalls Tryz.prog w0 167 [.val (.string a0),.list (a1.map AK) .none] ⟨B,Rw,L⟩ fun x st=>x = .val (.string r)∧st=⟨B,Rw,L⟩:=by
 rw [I7] at h
 refine hd [.tmp 4] Tryz.func167 Tryz.ntmps167 fun M0 W0 z p k c J j hs=>?_
 simp only [AA]
 refine rg [0,1] hs ?_
 refine AB (fun e st=>∃ (g:ByteArray),Ck e st B Rw L [(0,true,.val (.string g))] [] [] (Kt n g=some r)) ?_ ?_
 ·intro K4 C
  refine rg [0,9,10,11] hs ?_
  apply Aq
  refine AC (fun m e st=>∃ (b:ByteArray) (d:Int),Ck e st B Rw L [(0,true,.val (.string b)),(9,true,.list (a1.map AK) .none),(10,true,Am (a1.length:Int)),(11,true,Am d)] [] [] (H2 n a1 m b d=some r)) n ⟨a0,0,([]),Rw,ef hs,ef hs,j,h⟩ ?_
  rintro ml6 e st ⟨b,d,Xl6,Rl6,rfl,rfl,j,h⟩ Ul6 Vl6
  cases ml6 with
  | zero=>cases h
  | succ ml6 =>
  rw [H2] at h
  refine td z p k c j ?_
  refine rg [0,9,10,11,12] hs ?_
  apply An;intro K8 v
  refine BQ h hs ?_ ?_<;>intro hs h
  rotate_left
  ·refine sx [0] hs C ?_
   exact ⟨b,([]),Rl6,ef hs,ef hs,j,h⟩
  refine sk [0,9,10,11] hs v ?_
  clear v
  apply An;intro K10 u
  apply Aq
  obtain ⟨D,w,h⟩:=bind_some h
  obtain ⟨E,F,o⟩:=Bi w
  have q:=Bj (f:=AK) o
  have hs:=Ae q hs
  refine rg [0,6,9,10,11] hs ?_
  obtain ⟨H,t,h⟩:=bind_some h
  refine rc 2 [0,7,9,10,11] hs ?_;intro K13 i
  refine Aw _ (QC w0 hP n _ _ _ ([Part.mk 1 0 ((⟨#[120]⟩:ByteArray)),D]) _ t) (hv hs) ?_
  refine ne hs i ?_
  clear i
  obtain ⟨G,h⟩:=Au h
  obtain ⟨y,h⟩:=Au h
  have l:=y
  try simp +decide only [go_sem] at l
  exact go (tg (a:=([0,9,10,11],[0,9,10,11],()))) h hs z p k c j trivial (q2 u (fun e s=>Vl6 ml6 e s (Nat.lt_succ_self _)))
 ·clear h;rintro e st ⟨g,Xk3,Rk3,rfl,rfl,j,h⟩
  rw [Kt] at h
  refine td z p k c j ?_
  refine rg [4] hs ?_
  exact rt h hs c j
def DU (n:Nat) (a0:Cps) (a1:ByteArray):Option (Ex × Bool × Bool) :=
 (Do n a1).bind fun q =>
 if !(decide (q.2=0)) then
  some ((Ex.mk 0 0 (⟨#[]⟩:ByteArray) ([]) ([]),false,false))
 else
  (CY n q.1 ([bodyP])).bind fun y9 =>
  if !y9 then
   some ((Ex.mk 0 0 (⟨#[]⟩:ByteArray) ([]) ([]),false,false))
  else
   if 0≤1∧1≤(q.1.length:Int)∧(q.1.length:Int)≤(q.1.length:Int) then
    (Da n a0.targets (fun (x0:List Part)=>BW n x0 (q.1.drop 1))).bind fun y =>
    if decide (y<0) then
     (EG n a0 (q.1.drop 1)).bind fun z =>
     some ((z.1,z.2.1,z.2.2))
    else
     (Cb a0.rules y).bind fun b =>
     (Cb a0.targets y).bind fun g =>
     (Ic n a0.mid g).bind fun h =>
     if 0≤(g.length:Int)∧(g.length:Int)≤((q.1.drop 1).length:Int)∧((q.1.drop 1).length:Int)≤((q.1.drop 1).length:Int) then
      if h.2 then
       (Fb n h.1.2.2.2.1).bind fun y31 =>
       if y31 then
        some ((Ex.mk 0 0 (⟨#[]⟩:ByteArray) ([]) ([]),false,false))
       else
        if (decide (((((q.1.drop 1).drop g.length).length:Int))=0))&&(decide (h.1.2.2.1=3)) then
         some ((Ex.mk 23 0 (⟨#[]⟩:ByteArray) ([]) ([b.2,Ex.mk 1 0 (⟨#[]⟩:ByteArray) h.1.2.2.2.2 ([])]),true,true))
        else
         if decide (((((q.1.drop 1).drop g.length).length:Int))=0) then
          some ((b.2,decide (b.2.op=1),true))
         else
          if (!(decide (b.2.op=2)))||(decide (h.1.2.2.1=3)) then
           some ((Ex.mk 0 0 (⟨#[]⟩:ByteArray) ([]) ([]),false,false))
          else
           (I7 n b.2.text ((q.1.drop 1).drop g.length)).bind fun y44 =>
           some ((Ex.mk 2 0 y44 ([]) ([]),false,true))
      else
       if ((decide (((((q.1.drop 1).drop g.length).length:Int))=0))&&h.2)&&(decide (h.1.2.2.1=3)) then
        some ((Ex.mk 23 0 (⟨#[]⟩:ByteArray) ([]) ([b.2,Ex.mk 1 0 (⟨#[]⟩:ByteArray) h.1.2.2.2.2 ([])]),true,true))
       else
        if decide (((((q.1.drop 1).drop g.length).length:Int))=0) then
         some ((b.2,decide (b.2.op=1),true))
        else
         if !(decide (b.2.op=2)) then
          some ((Ex.mk 0 0 (⟨#[]⟩:ByteArray) ([]) ([]),false,false))
         else
          (I7 n b.2.text ((q.1.drop 1).drop g.length)).bind fun y56 =>
          some ((Ex.mk 2 0 y56 ([]) ([]),false,true))
     else none
   else none
theorem J6 (w0:World) (hB:Qk w0) (hE:Jl w0) (hM:Jh w0) (hP:Pow10 w0) (n:Nat) (B:Ao) (Rw:Av) (L:As) (la0:Nat) (a0:Cps) (hla0:B[la0]? = some (.list (a0.rules.map A5) .none::(.list (a0.targets.map (Jc AK)) .none::(a0.mid.cs)))) (a1:ByteArray) (r:Ex × Bool × Bool) (h:DU n a0 a1=some r) :
  ACalls Tryz.prog w0 76 [.box la0 0,.val (.string a1)] ⟨B,Rw,L⟩ fun x st=>x = .tup [.agg (r.1.cs),.val (.bool r.2.1),.val (.bool r.2.2)]∧st=⟨B,Rw,L⟩:=by
 rw [DU] at h
 refine hd [.cell 4 65,.tmp 5,.tmp 6] Tryz.func76 Tryz.ntmps76 fun M0 W0 hN bf bc g hu q hs=>?_
 simp only [AA]
 have ay:=(Ak.1 hla0).1
 apply An;intro K1 aw
 apply Ax 1 [0,1,4]
 rw [Ap];simp +decide only [go_sem,Nat.reduceAdd,Ar hla0,or_true]
 (repeat' apply Ae)<;>first | refine aw _ _ ?_ | exact cl
 clear aw
 apply An;intro K2 au
 obtain ⟨w,az,h⟩:=bind_some h
 apply Ax 2 [0,4,7,8]
 rw [Ap];simp +decide only [go_sem,Nat.reduceAdd,Ar hla0,or_true]
 (repeat' apply Ae)<;>first | refine Aw _ (Gx w0 hE hM hP n _ _ _ a1 _ az) (by first | rfl | (simp +decide only [go_sem,Nat.reduceAdd,Ar hla0,or_true];done) | (simp +decide only [go_sem,Nat.reduceAdd,Vl.cs,Ty.cs,Ar hla0,or_true];done)) ?_ | exact cl
 rw [Ap];simp +decide only [go_sem,Nat.reduceAdd,Ar hla0,or_true]
 (repeat' apply Ae)<;>first | refine au _ _ ?_ | exact cl
 clear au
 apply An;intro K4 ap
 apply An;intro K5 z
 refine ZcG 0 (.list [.agg [Am bodyP.kind,Am bodyP.index,.val (.string bodyP.name)]] .none) (by decide) ?_
 rcases Bool.eq_false_or_eq_true (!(decide (w.2=0))) with hf6 | hf6
 ·replace h:=A7 h hf6
  apply Ax 2 [0,4,7,28]
  rw [Ap];simp +decide only [go_sem,Nat.reduceAdd,Ar hla0,or_true,hf6,hB]
  (repeat' apply Ae)<;>first | refine Hz ?_ | exact cl
  rw [Ap];simp +decide only [go_sem,Nat.reduceAdd,Ar hla0,or_true,hf6,hB]
  (repeat' apply Ae)<;>first | refine z _ _ ?_ | exact cl
  clear z
  refine A4 true ev (by simp +decide only [go_sem,Nat.reduceAdd,Ar hla0,or_true,hf6]) (fun hb7=>?_) (fun hb7=>by cases hb7)
  apply An;intro K8 av
  apply Ax 1 [4,5,6]
  rw [Ap];simp +decide only [go_sem,Nat.reduceAdd,Ar hla0,or_true,hf6]
  (repeat' apply Ae)<;>first | refine av _ _ ?_ | exact cl
  clear av
  apply A1;simp +decide only [go_sem,Nat.reduceAdd,Ar hla0,or_true,hf6]
  have hgt:=Option.some.inj h;subst hgt
  first | refine C5 g rfl q.pre ev ⟨?_,rfl⟩ | refine EP g rfl q.pre ev ⟨?_,rfl⟩
  first | rfl | (simp +decide only [go_sem,Nat.reduceAdd,Ar hla0,or_true,hf6];done) | (simp +decide only [go_sem,Nat.reduceAdd,Vl.cs,Ty.cs,Ar hla0,or_true,hf6];done)
 ·replace h:=A8 h hf6
  obtain ⟨y9,a4,h⟩:=bind_some h
  apply Ax 2 [0,4,7,28]
  rw [Ap];simp +decide only [go_sem,Nat.reduceAdd,Ar hla0,or_true,hf6,hB]
  (repeat' apply Ae)<;>first | refine Aw _ (Dh w0 n _ _ _ w.1 ([bodyP]) _ a4) (by first | rfl | (simp +decide only [go_sem,Nat.reduceAdd,Ar hla0,or_true,hf6,hB];done) | (simp +decide only [go_sem,Nat.reduceAdd,Vl.cs,Ty.cs,Ar hla0,or_true,hf6,hB];done)) ?_ | exact cl
  rw [Ap];simp +decide only [go_sem,Nat.reduceAdd,Ar hla0,or_true,hf6,hB]
  (repeat' apply Ae)<;>first | refine z _ _ ?_ | exact cl
  clear z
  refine A4 (!y9) ev (by first | (simp +decide only [go_sem,Nat.reduceAdd,Ar hla0,or_true,hf6];done) | (simp +decide only [go_sem,Nat.reduceAdd,Ar hla0,or_true,hf6];rfl)) (fun d=>?_) (fun d=>?_)
  ·replace h:=A7 h d
   apply An;intro K11 K
   apply Ax 1 [4,5,6]
   rw [Ap];simp +decide only [go_sem,Nat.reduceAdd,Ar hla0,or_true,hf6,d]
   (repeat' apply Ae)<;>first | refine K _ _ ?_ | exact cl
   clear K
   apply A1;simp +decide only [go_sem,Nat.reduceAdd,Ar hla0,or_true,hf6,d]
   have hgt:=Option.some.inj h;subst hgt
   first | refine C5 g rfl q.pre ev ⟨?_,rfl⟩ | refine EP g rfl q.pre ev ⟨?_,rfl⟩
   first | rfl | (simp +decide only [go_sem,Nat.reduceAdd,Ar hla0,or_true,hf6,d];done) | (simp +decide only [go_sem,Nat.reduceAdd,Vl.cs,Ty.cs,Ar hla0,or_true,hf6,d];done)
  replace h:=A8 h d
  refine sk [0,4,7] hs ap ?_
  clear ap
  apply An;intro K12 F
  obtain ⟨bb,h⟩:=Au h
  apply Ax 1 [0,4,9]
  rw [Ap];simp +decide only [go_sem,Nat.reduceAdd,Ar hla0,or_true,hf6,d]
  (repeat' apply Ae)<;>first | refine F _ _ ?_ | exact cl
  clear F
  apply An;intro K14 V
  obtain ⟨a6,ak,h⟩:=bind_some h
  apply Ax 2 [0,4,9,10]
  rw [Ap];simp +decide only [go_sem,Nat.reduceAdd,Ar hla0,or_true,hf6,d]
  (repeat' apply Ae)<;>first | refine Aw _ (Iz w0 n _ _ _ a0.targets 163 [.box (B.length+1) 0] (fun (x0:List Part)=>BW n x0 (w.1.drop 1)) (fun x0 r hx B' rows' a7 be=>by exact Jb w0 n _ _ _ x0 _ (w.1.drop 1) (D1 a7 (by simp +decide only [go_sem,Nat.reduceAdd,Ar hla0,or_true,hf6,d])) _ hx) _ ak) (by first | rfl | (simp +decide only [go_sem,Nat.reduceAdd,Ar hla0,or_true,hf6,d];done) | (simp +decide only [go_sem,Nat.reduceAdd,Vl.cs,Ty.cs,Ar hla0,or_true,hf6,d];done)) ?_ | exact cl
  rw [Ap];simp +decide only [go_sem,Nat.reduceAdd,Ar hla0,or_true,hf6,d]
  (repeat' apply Ae)<;>first | refine V _ _ ?_ | exact cl
  clear V
  apply An;intro K16 Z
  apply An;intro K17 aj
  apply Ax 1 [0,4,9,10,39]
  rw [Ap];simp +decide only [go_sem,Nat.reduceAdd,Ar hla0,or_true,hf6,d]
  (repeat' apply Ae)<;>first | refine aj _ _ ?_ | exact cl
  clear aj
  refine A4 (decide (a6<0)) ev (by first | (simp +decide only [go_sem,Nat.reduceAdd,Ar hla0,or_true,hf6,d];done) | (simp +decide only [go_sem,Nat.reduceAdd,Ar hla0,or_true,hf6,d];rfl)) (fun e=>?_) (fun e=>?_)
  ·replace h:=A7 h e
   apply An;intro K19 G
   obtain ⟨bg,ar,h⟩:=bind_some h
   apply Ax 2 [4,5,6]
   rw [Ap];simp +decide only [go_sem,Nat.reduceAdd,Ar hla0,or_true,hf6,d,e]
   (repeat' apply Ae)<;>first | refine Aw _ (KW w0 hP n _ _ _ la0 a0 (by simp +decide only [go_sem,Nat.reduceAdd,Ar hla0,or_true,hf6,d,e]) (w.1.drop 1) _ ar) (by first | rfl | (simp +decide only [go_sem,Nat.reduceAdd,Ar hla0,or_true,hf6,d,e];done) | (simp +decide only [go_sem,Nat.reduceAdd,Vl.cs,Ty.cs,Ar hla0,or_true,hf6,d,e];done)) ?_ | exact cl
   rw [Ap];simp +decide only [go_sem,Nat.reduceAdd,Ar hla0,or_true,hf6,d,e]
   (repeat' apply Ae)<;>first | refine G _ _ ?_ | exact cl
   clear G
   apply A1;simp +decide only [go_sem,Nat.reduceAdd,Ar hla0,or_true,hf6,d,e]
   have hgt:=Option.some.inj h;subst hgt
   first | refine C5 g rfl q.pre ev ⟨?_,rfl⟩ | refine EP g rfl q.pre ev ⟨?_,rfl⟩
   first | rfl | (simp +decide only [go_sem,Nat.reduceAdd,Ar hla0,or_true,hf6,d,e];done) | (simp +decide only [go_sem,Nat.reduceAdd,Vl.cs,Ty.cs,Ar hla0,or_true,hf6,d,e];done)
  replace h:=A8 h e
  refine sk [0,4,9,10] hs Z ?_
  clear Z
  apply An;intro K21 D
  obtain ⟨y,a5,a8,b,h⟩:=ix A5 h
  obtain ⟨t,a2,a3,c,h⟩:=ix (Jc AK) h
  apply J2 PH [15,16] [0,4,9,11,12] kr (fun s=>∃ (X:Ao) (rows:Av),s=⟨B++([[Am 0,Am 0,.val (.string (⟨#[]⟩:ByteArray)),.list ([]) .full,.list ([]) .full],[.list ((w.1.drop 1).map AK) .none]]++X),rows,L⟩) 3 (B.length+2)
  ·simp +decide only [go_sem,Nat.reduceAdd]
  ·rintro s ⟨X,rows,rfl⟩
   refine ⟨1,?_⟩
   rw [Ap];simp +decide only [go_sem,Nat.reduceAdd,Dk,Ar hla0,or_true,hf6,d,e,b,c]
   (repeat' apply Ae)<;>first | rfl | exact cl
  ·exact gd (tg (a:=(15,16,[0,4,9,11,12]))) (Ae c (Ae b (Ae hf6 (Ae or_true (Ae (Ar hla0) hs)))))
  simp +decide only [go_sem,Nat.reduceAdd,Ar hla0,or_true,hf6,d,e,b,c]
  (repeat' apply Ae)<;>first | refine D _ _ ?_ | exact cl
  clear D
  apply An;intro K24 J
  obtain ⟨p,aq,h⟩:=bind_some h
  apply Ax 2 [4,9,11,12,13,14]
  rw [Ap];simp +decide only [go_sem,Nat.reduceAdd,Ar hla0,or_true,hf6,d,e,b,c]
  (repeat' apply Ae)<;>first | refine Aw _ (M8 w0 n _ _ _ a0.mid t _ aq) (by first | rfl | (simp +decide only [go_sem,Nat.reduceAdd,Ar hla0,or_true,hf6,d,e,b,c];done) | (simp +decide only [go_sem,Nat.reduceAdd,Vl.cs,Ty.cs,Ar hla0,or_true,hf6,d,e,b,c];done)) ?_ | exact cl
  rw [Ap];simp +decide only [go_sem,Nat.reduceAdd,Ar hla0,or_true,hf6,d,e,b,c]
  (repeat' apply Ae)<;>first | refine J _ _ ?_ | exact cl
  clear J
  apply An;intro K26 C
  obtain ⟨ba,h⟩:=Au h
  apply Ax 1 [4,11,13,14,15]
  rw [Ap];simp +decide only [go_sem,Nat.reduceAdd,Ar hla0,or_true,hf6,d,e,b,c]
  (repeat' apply Ae)<;>first | refine C _ _ ?_ | exact cl
  clear C
  apply An;intro K28 v
  apply Aq
  apply An;intro K29 u
  rcases Bool.eq_false_or_eq_true (p.2) with hf30 | hf30
  ·replace h:=A7 h hf30
   obtain ⟨a9,ao,h⟩:=bind_some h
   apply Ax 2 [4,11,13,14,15,74]
   rw [Ap];simp +decide only [go_sem,Nat.reduceAdd,Ar hla0,or_true,hf6,d,e,b,c,hf30]
   (repeat' apply Ae)<;>first | refine Aw _ (JS w0 n _ _ _ p.1.2.2.2.1 _ ao) (by first | rfl | (simp +decide only [go_sem,Nat.reduceAdd,Ar hla0,or_true,hf6,d,e,b,c,hf30];done) | (simp +decide only [go_sem,Nat.reduceAdd,Vl.cs,Ty.cs,Ar hla0,or_true,hf6,d,e,b,c,hf30];done)) ?_ | exact cl
   rw [Ap];simp +decide only [go_sem,Nat.reduceAdd,Ar hla0,or_true,hf6,d,e,b,c,hf30]
   (repeat' apply Ae)<;>first | refine u _ _ ?_ | exact cl
   clear u
   refine A4 (a9) ev (by first | (simp +decide only [go_sem,Nat.reduceAdd,Ar hla0,or_true,hf6,d,e,b,c,hf30];done) | (simp +decide only [go_sem,Nat.reduceAdd,Ar hla0,or_true,hf6,d,e,b,c,hf30];rfl)) (fun f=>?_) (fun f=>?_)
   ·replace h:=A7 h f
    apply An;intro K33 af
    apply Ax 1 [4,5,6]
    rw [Ap];simp +decide only [go_sem,Nat.reduceAdd,Ar hla0,or_true,hf6,d,e,b,c,hf30,f]
    (repeat' apply Ae)<;>first | refine af _ _ ?_ | exact cl
    clear af
    apply A1;simp +decide only [go_sem,Nat.reduceAdd,Ar hla0,or_true,hf6,d,e,b,c,hf30,f]
    have hgt:=Option.some.inj h;subst hgt
    first | refine C5 g rfl q.pre ev ⟨?_,rfl⟩ | refine EP g rfl q.pre ev ⟨?_,rfl⟩
    first | rfl | (simp +decide only [go_sem,Nat.reduceAdd,Ar hla0,or_true,hf6,d,e,b,c,hf30,f];done) | (simp +decide only [go_sem,Nat.reduceAdd,Vl.cs,Ty.cs,Ar hla0,or_true,hf6,d,e,b,c,hf30,f];done)
   replace h:=A8 h f
   apply An;intro K34 ag
   apply Ax 1 [4,11,13,14,15,82]
   rw [Ap];simp +decide only [go_sem,Nat.reduceAdd,Ar hla0,or_true,hf6,d,e,b,c,hf30,f]
   (repeat' apply Ae)<;>first | refine ag _ _ ?_ | exact cl
   clear ag
   refine A4 ((decide (((((w.1.drop 1).drop t.length).length:Int))=0))&&(decide (p.1.2.2.1=3))) ev (by first | (simp +decide only [go_sem,Nat.reduceAdd,Ar hla0,or_true,hf6,d,e,b,c,hf30,f];done) | (simp +decide only [go_sem,Nat.reduceAdd,Ar hla0,or_true,hf6,d,e,b,c,hf30,f];rfl)) (fun i=>?_) (fun i=>?_)
   ·replace h:=A7 h i
    apply An;intro K36 Y
    apply Ax 1 [4,5,6]
    rw [Ap];simp +decide only [go_sem,Nat.reduceAdd,Ar hla0,or_true,hf6,d,e,b,c,hf30,f,i]
    (repeat' apply Ae)<;>first | refine Y _ _ ?_ | exact cl
    clear Y
    apply A1;simp +decide only [go_sem,Nat.reduceAdd,Ar hla0,or_true,hf6,d,e,b,c,hf30,f,i]
    have hgt:=Option.some.inj h;subst hgt
    first | refine C5 g rfl q.pre ev ⟨?_,rfl⟩ | refine EP g rfl q.pre ev ⟨?_,rfl⟩
    first | rfl | (simp +decide only [go_sem,Nat.reduceAdd,Ar hla0,or_true,hf6,d,e,b,c,hf30,f,i];done) | (simp +decide only [go_sem,Nat.reduceAdd,Vl.cs,Ty.cs,Ar hla0,or_true,hf6,d,e,b,c,hf30,f,i];done)
   replace h:=A8 h i
   apply An;intro K37 U
   apply Ax 1 [4,11,13,14,15,100]
   rw [Ap];simp +decide only [go_sem,Nat.reduceAdd,Ar hla0,or_true,hf6,d,e,b,c,hf30,f,i]
   (repeat' apply Ae)<;>first | refine U _ _ ?_ | exact cl
   clear U
   refine A4 (decide (((((w.1.drop 1).drop t.length).length:Int))=0)) ev (by first | (simp +decide only [go_sem,Nat.reduceAdd,Ar hla0,or_true,hf6,d,e,b,c,hf30,f,i];done) | (simp +decide only [go_sem,Nat.reduceAdd,Ar hla0,or_true,hf6,d,e,b,c,hf30,f,i];rfl)) (fun k=>?_) (fun k=>?_)
   ·replace h:=A7 h k
    apply An;intro K39 E
    apply J2 PH [4] [4,5,6] kr (fun s=>∃ (X:Ao) (rows:Av) (c0:List AV),s=⟨B++([c0,[.list ((w.1.drop 1).map AK) .none],y.2.cs,Am p.1.1::(.val (.string p.1.2.1)::(Am p.1.2.2.1::((p.1.2.2.2.1.cs)++([.list (p.1.2.2.2.2.map Di) .none]))))]++X),rows,L⟩) 2 (B.length+4)
    ·simp +decide only [go_sem,Nat.reduceAdd]
    ·rintro s ⟨X,rows,c0,rfl⟩
     refine ⟨1,?_⟩
     rw [Ap];simp +decide only [go_sem,Nat.reduceAdd,Dk,Ar hla0,or_true,hf6,d,e,b,c,hf30,f,i,k]
     (repeat' apply Ae)<;>first | rfl | exact cl
    ·exact gd (tg (a:=(4,[4,5,6]))) (Ae hf30 (Ae c (Ae b (Ae hf6 (Ae or_true (Ae (Ar hla0) hs))))))
    simp +decide only [go_sem,Nat.reduceAdd,Ar hla0,or_true,hf6,d,e,b,c,hf30,f,i,k]
    (repeat' apply Ae)<;>first | refine E _ _ ?_ | exact cl
    clear E
    apply A1;simp +decide only [go_sem,Nat.reduceAdd,Ar hla0,or_true,hf6,d,e,b,c,hf30,f,i,k]
    have hgt:=Option.some.inj h;subst hgt
    first | refine C5 g rfl q.pre ev ⟨?_,rfl⟩ | refine EP g rfl q.pre ev ⟨?_,rfl⟩
    first | rfl | (simp +decide only [go_sem,Nat.reduceAdd,Ar hla0,or_true,hf6,d,e,b,c,hf30,f,i,k];done) | (simp +decide only [go_sem,Nat.reduceAdd,Vl.cs,Ty.cs,Ar hla0,or_true,hf6,d,e,b,c,hf30,f,i,k];done)
   replace h:=A8 h k
   apply An;intro K40 ad
   apply Ax 1 [4,11,15,108]
   rw [Ap];simp +decide only [go_sem,Nat.reduceAdd,Ar hla0,or_true,hf6,d,e,b,c,hf30,f,i,k]
   (repeat' apply Ae)<;>first | refine ad _ _ ?_ | exact cl
   clear ad
   refine A4 ((!(decide (y.2.op=2)))||(decide (p.1.2.2.1=3))) ev (by first | (simp +decide only [go_sem,Nat.reduceAdd,Ar hla0,or_true,hf6,d,e,b,c,hf30,f,i,k];done) | (simp +decide only [go_sem,Nat.reduceAdd,Ar hla0,or_true,hf6,d,e,b,c,hf30,f,i,k];rfl)) (fun m=>?_) (fun m=>?_)
   ·replace h:=A7 h m
    apply An;intro K42 N
    apply Ax 1 [4,5,6]
    rw [Ap];simp +decide only [go_sem,Nat.reduceAdd,Ar hla0,or_true,hf6,d,e,b,c,hf30,f,i,k,m]
    (repeat' apply Ae)<;>first | refine N _ _ ?_ | exact cl
    clear N
    apply A1;simp +decide only [go_sem,Nat.reduceAdd,Ar hla0,or_true,hf6,d,e,b,c,hf30,f,i,k,m]
    have hgt:=Option.some.inj h;subst hgt
    first | refine C5 g rfl q.pre ev ⟨?_,rfl⟩ | refine EP g rfl q.pre ev ⟨?_,rfl⟩
    first | rfl | (simp +decide only [go_sem,Nat.reduceAdd,Ar hla0,or_true,hf6,d,e,b,c,hf30,f,i,k,m];done) | (simp +decide only [go_sem,Nat.reduceAdd,Vl.cs,Ty.cs,Ar hla0,or_true,hf6,d,e,b,c,hf30,f,i,k,m];done)
   replace h:=A8 h m
   refine sk [4,11,15] hs v ?_
   clear v
   apply An;intro K43 Q
   obtain ⟨bh,am,h⟩:=bind_some h
   apply Ax 2 [4,5,6]
   rw [Ap];simp +decide only [go_sem,Nat.reduceAdd,Ar hla0,or_true,hf6,d,e,b,c,hf30,f,i,k,m]
   (repeat' apply Ae)<;>first | refine Aw _ (Nx w0 hP n _ _ _ y.2.text ((w.1.drop 1).drop t.length) _ am) (by first | rfl | (simp +decide only [go_sem,Nat.reduceAdd,Ar hla0,or_true,hf6,d,e,b,c,hf30,f,i,k,m];done) | (simp +decide only [go_sem,Nat.reduceAdd,Vl.cs,Ty.cs,Ar hla0,or_true,hf6,d,e,b,c,hf30,f,i,k,m];done)) ?_ | exact cl
   rw [Ap];simp +decide only [go_sem,Nat.reduceAdd,Ar hla0,or_true,hf6,d,e,b,c,hf30,f,i,k,m]
   (repeat' apply Ae)<;>first | refine Q _ _ ?_ | exact cl
   clear Q
   apply A1;simp +decide only [go_sem,Nat.reduceAdd,Ar hla0,or_true,hf6,d,e,b,c,hf30,f,i,k,m]
   have hgt:=Option.some.inj h;subst hgt
   first | refine C5 g rfl q.pre ev ⟨?_,rfl⟩ | refine EP g rfl q.pre ev ⟨?_,rfl⟩
   first | rfl | (simp +decide only [go_sem,Nat.reduceAdd,Ar hla0,or_true,hf6,d,e,b,c,hf30,f,i,k,m];done) | (simp +decide only [go_sem,Nat.reduceAdd,Vl.cs,Ty.cs,Ar hla0,or_true,hf6,d,e,b,c,hf30,f,i,k,m];done)
  ·replace h:=A8 h hf30
   apply Ax 2 [4,11,13,14,15,74]
   rw [Ap];simp +decide only [go_sem,Nat.reduceAdd,Ar hla0,or_true,hf6,d,e,b,c,hf30]
   (repeat' apply Ae)<;>first | refine Hz ?_ | exact cl
   rw [Ap];simp +decide only [go_sem,Nat.reduceAdd,Ar hla0,or_true,hf6,d,e,b,c,hf30]
   (repeat' apply Ae)<;>first | refine u _ _ ?_ | exact cl
   clear u
   refine A4 false ev (by simp +decide only [go_sem,Nat.reduceAdd,Ar hla0,or_true,hf6,d,e,b,c,hf30]) (fun hb45=>by cases hb45) (fun hb45=>?_)
   apply An;intro K46 ah
   apply Ax 1 [4,11,13,14,15,82]
   rw [Ap];simp +decide only [go_sem,Nat.reduceAdd,Ar hla0,or_true,hf6,d,e,b,c,hf30]
   (repeat' apply Ae)<;>first | refine ah _ _ ?_ | exact cl
   clear ah
   refine A4 (((decide (((((w.1.drop 1).drop t.length).length:Int))=0))&&p.2)&&(decide (p.1.2.2.1=3))) ev (by first | (simp +decide only [go_sem,Nat.reduceAdd,Ar hla0,or_true,hf6,d,e,b,c,hf30];done) | (simp +decide only [go_sem,Nat.reduceAdd,Ar hla0,or_true,hf6,d,e,b,c,hf30];rfl)) (fun j=>?_) (fun j=>?_)
   ·replace h:=A7 h j
    apply An;intro K48 ae
    apply Ax 1 [4,5,6]
    rw [Ap];simp +decide only [go_sem,Nat.reduceAdd,Ar hla0,or_true,hf6,d,e,b,c,hf30,j]
    (repeat' apply Ae)<;>first | refine ae _ _ ?_ | exact cl
    clear ae
    apply A1;simp +decide only [go_sem,Nat.reduceAdd,Ar hla0,or_true,hf6,d,e,b,c,hf30,j]
    have hgt:=Option.some.inj h;subst hgt
    first | refine C5 g rfl q.pre ev ⟨?_,rfl⟩ | refine EP g rfl q.pre ev ⟨?_,rfl⟩
    first | rfl | (simp +decide only [go_sem,Nat.reduceAdd,Ar hla0,or_true,hf6,d,e,b,c,hf30,j];done) | (simp +decide only [go_sem,Nat.reduceAdd,Vl.cs,Ty.cs,Ar hla0,or_true,hf6,d,e,b,c,hf30,j];done)
   replace h:=A8 h j
   apply An;intro K49 O
   apply Ax 1 [4,11,13,14,15,100]
   rw [Ap];simp +decide only [go_sem,Nat.reduceAdd,Ar hla0,or_true,hf6,d,e,b,c,hf30,j]
   (repeat' apply Ae)<;>first | refine O _ _ ?_ | exact cl
   clear O
   refine A4 (decide (((((w.1.drop 1).drop t.length).length:Int))=0)) ev (by first | (simp +decide only [go_sem,Nat.reduceAdd,Ar hla0,or_true,hf6,d,e,b,c,hf30,j];done) | (simp +decide only [go_sem,Nat.reduceAdd,Ar hla0,or_true,hf6,d,e,b,c,hf30,j];rfl)) (fun l=>?_) (fun l=>?_)
   ·replace h:=A7 h l
    apply An;intro K51 ai
    apply J2 PH [4] [4,5,6] kr (fun s=>∃ (X:Ao) (rows:Av) (c0:List AV),s=⟨B++([c0,[.list ((w.1.drop 1).map AK) .none],y.2.cs,Am p.1.1::(.val (.string p.1.2.1)::(Am p.1.2.2.1::((p.1.2.2.2.1.cs)++([.list (p.1.2.2.2.2.map Di) .none]))))]++X),rows,L⟩) 2 (B.length+4)
    ·simp +decide only [go_sem,Nat.reduceAdd]
    ·rintro s ⟨X,rows,c0,rfl⟩
     refine ⟨1,?_⟩
     rw [Ap];simp +decide only [go_sem,Nat.reduceAdd,Dk,Ar hla0,or_true,hf6,d,e,b,c,hf30,j,l]
     (repeat' apply Ae)<;>first | rfl | exact cl
    ·exact gd (tg (a:=(4,[4,5,6]))) (Ae hf30 (Ae c (Ae b (Ae hf6 (Ae or_true (Ae (Ar hla0) hs))))))
    simp +decide only [go_sem,Nat.reduceAdd,Ar hla0,or_true,hf6,d,e,b,c,hf30,j,l]
    (repeat' apply Ae)<;>first | refine ai _ _ ?_ | exact cl
    clear ai
    apply A1;simp +decide only [go_sem,Nat.reduceAdd,Ar hla0,or_true,hf6,d,e,b,c,hf30,j,l]
    have hgt:=Option.some.inj h;subst hgt
    first | refine C5 g rfl q.pre ev ⟨?_,rfl⟩ | refine EP g rfl q.pre ev ⟨?_,rfl⟩
    first | rfl | (simp +decide only [go_sem,Nat.reduceAdd,Ar hla0,or_true,hf6,d,e,b,c,hf30,j,l];done) | (simp +decide only [go_sem,Nat.reduceAdd,Vl.cs,Ty.cs,Ar hla0,or_true,hf6,d,e,b,c,hf30,j,l];done)
   replace h:=A8 h l
   apply An;intro K52 ab
   apply Ax 1 [4,11,15,108]
   rw [Ap];simp +decide only [go_sem,Nat.reduceAdd,Ar hla0,or_true,hf6,d,e,b,c,hf30,j,l]
   (repeat' apply Ae)<;>first | refine ab _ _ ?_ | exact cl
   clear ab
   refine A4 (!(decide (y.2.op=2))) ev (by first | (simp +decide only [go_sem,Nat.reduceAdd,Ar hla0,or_true,hf6,d,e,b,c,hf30,j,l];done) | (simp +decide only [go_sem,Nat.reduceAdd,Ar hla0,or_true,hf6,d,e,b,c,hf30,j,l];rfl)) (fun o=>?_) (fun o=>?_)
   ·replace h:=A7 h o
    apply An;intro K54 aa
    apply Ax 1 [4,5,6]
    rw [Ap];simp +decide only [go_sem,Nat.reduceAdd,Ar hla0,or_true,hf6,d,e,b,c,hf30,j,l,o]
    (repeat' apply Ae)<;>first | refine aa _ _ ?_ | exact cl
    clear aa
    apply A1;simp +decide only [go_sem,Nat.reduceAdd,Ar hla0,or_true,hf6,d,e,b,c,hf30,j,l,o]
    have hgt:=Option.some.inj h;subst hgt
    first | refine C5 g rfl q.pre ev ⟨?_,rfl⟩ | refine EP g rfl q.pre ev ⟨?_,rfl⟩
    first | rfl | (simp +decide only [go_sem,Nat.reduceAdd,Ar hla0,or_true,hf6,d,e,b,c,hf30,j,l,o];done) | (simp +decide only [go_sem,Nat.reduceAdd,Vl.cs,Ty.cs,Ar hla0,or_true,hf6,d,e,b,c,hf30,j,l,o];done)
   replace h:=A8 h o
   refine sk [4,11,15] hs v ?_
   clear v
   apply An;intro K55 H
   obtain ⟨bd,ax,h⟩:=bind_some h
   apply Ax 2 [4,5,6]
   rw [Ap];simp +decide only [go_sem,Nat.reduceAdd,Ar hla0,or_true,hf6,d,e,b,c,hf30,j,l,o]
   (repeat' apply Ae)<;>first | refine Aw _ (Nx w0 hP n _ _ _ y.2.text ((w.1.drop 1).drop t.length) _ ax) (by first | rfl | (simp +decide only [go_sem,Nat.reduceAdd,Ar hla0,or_true,hf6,d,e,b,c,hf30,j,l,o];done) | (simp +decide only [go_sem,Nat.reduceAdd,Vl.cs,Ty.cs,Ar hla0,or_true,hf6,d,e,b,c,hf30,j,l,o];done)) ?_ | exact cl
   rw [Ap];simp +decide only [go_sem,Nat.reduceAdd,Ar hla0,or_true,hf6,d,e,b,c,hf30,j,l,o]
   (repeat' apply Ae)<;>first | refine H _ _ ?_ | exact cl
   clear H
   apply A1;simp +decide only [go_sem,Nat.reduceAdd,Ar hla0,or_true,hf6,d,e,b,c,hf30,j,l,o]
   have hgt:=Option.some.inj h;subst hgt
   first | refine C5 g rfl q.pre ev ⟨?_,rfl⟩ | refine EP g rfl q.pre ev ⟨?_,rfl⟩
   first | rfl | (simp +decide only [go_sem,Nat.reduceAdd,Ar hla0,or_true,hf6,d,e,b,c,hf30,j,l,o];done) | (simp +decide only [go_sem,Nat.reduceAdd,Vl.cs,Ty.cs,Ar hla0,or_true,hf6,d,e,b,c,hf30,j,l,o];done)
def Es (n:Nat)  (b0_k5:Ex) (pla2_k5:Bool):Option (Ex × Bool) :=
 some ((b0_k5,pla2_k5))
def IH (n:Nat) (b:Ex) (q:Cps) (h:Bool):Option (Ex × Bool) :=
 (DU n q b.text).bind fun g =>
 if !g.2.2 then
  Es n b false
 else
  if decide (b.op=2) then
   some ((g.1,h))
  else
   if decide (g.1.op=2) then
    Es n (Ex.mk b.op b.int g.1.text b.value b.args) h
   else
    if (decide (b.op=22))&&g.2.1 then
     some ((Ex.mk 1 0 (⟨#[]⟩:ByteArray) ([Vl.mk 1 1 0 (⟨#[]⟩:ByteArray) ([]) ([])]) ([]),h))
    else
     Es n b false
theorem P3 (w0:World) (hB:Qk w0) (hE:Jl w0) (hM:Jh w0) (hP:Pow10 w0) (n:Nat) (B:Ao) (Rw:Av) (L:As) (a0:Ex) (la1 la1p:Nat) (a1:Cps) (hla1:B[la1]? = some [.box la1p 0]) (hla1p:B[la1p]? = some (.list (a1.rules.map A5) .none::(.list (a1.targets.map (Jc AK)) .none::(a1.mid.cs)))) (la2:Nat) (a2:Bool) (hla2:B[la2]? = some ([.val (.bool a2)])) (r:Ex × Bool) (h:IH n a0 a1 a2=some r) :
  ACalls Tryz.prog w0 75 [.agg (a0.cs),.box la1 0,.box la2 0] ⟨B,Rw,L⟩ fun x st=>x = .agg (r.1.cs)∧st=⟨(B.set la2 [.val (.bool r.2)]),Rw,L⟩:=by
 rw [IH] at h
 refine hd [.cell 4 65] Tryz.func75 Tryz.ntmps75 fun M0 W0 u j l f v g hs=>?_
 simp only [AA]
 have o:=(Ak.1 hla1).1
 have k:=(Ak.1 hla1p).1
 have p:=(Ak.1 hla2).1
 have hs:=Ae (Ar hla1) hs
 have hs:=Ae (Ar hla1p) hs
 have hs:=Ae (Ar hla2) hs
 refine rg [1,2,3,4] hs ?_
 obtain ⟨q,t,h⟩:=bind_some h
 refine rc 2 [2,3,4,5,6,7] hs ?_;intro K2 m
 refine Aw _ (J6 w0 hB hE hM hP n _ _ _ la1p a1 (ef hs) a0.text _ t) (hv hs) ?_
 refine ne hs m ?_
 clear m
 refine AB (fun e st=>∃ (c:Ex) (b:Bool) (d:List AV) (Xk5:Ao) (Rk5:Av),e=[(3,true,.box B.length 0),(4,true,.box (B.length+1) 0)]∧st=⟨(B.set la2 ([.val (.bool b)]))++([d,[Am 0,Am 0,.val (.string (⟨#[]⟩:ByteArray)),.list ([]) .full,.list ([]) .full],q.1.cs]++Xk5),Rk5,L⟩∧Owns Rw Rk5 []∧d.map AV.pubCell=c.cs∧Es n c b=some r) ?_ ?_
 ·intro K6 i
  apply Aq
  refine rg [2,3,4,5,6,16] hs ?_
  refine BQ h hs ?_ ?_<;>intro hs h
  ·refine rl [3,4] hs i ?_
   exact ⟨a0,false,_,([]),Rw,ef hs,ef hs,g,ef hs,h⟩
  refine rg [2,3,4,5,6,19] hs ?_
  refine BQ h hs ?_ ?_<;>intro hs h
  ·refine rg [4] hs ?_
   exact rt h hs f g
  refine rg [2,3,4,5,6,24] hs ?_
  refine BQ h hs ?_ ?_<;>intro hs h
  ·have hs:=Ae (Ex.cs_eqs a0) hs
   refine rl [3,4] hs i ?_
   exact ⟨(Ex.mk a0.op a0.int q.1.text a0.value a0.args),a2,([Am a0.op,Am a0.int,.val (.string q.1.text),.list (a0.value.map Di) .none,.list (a0.args.map O5) .none]),([]),Rw,ef (cm hs),ef (cm hs),g,ef (cm hs),h⟩
  refine rg [2,3,4,31] hs ?_
  refine BQ h hs ?_ ?_<;>intro hs h
  ·refine rg [4] hs ?_
   exact rt h hs f g
  refine rl [3,4] hs i ?_
  exact ⟨a0,false,_,([]),Rw,ef hs,ef hs,g,ef hs,h⟩
 ·clear h;rintro e st ⟨c,b,d,Xk5,Rk5,rfl,rfl,g,s,h⟩
  rw [Es] at h
  refine FB B.length (by first | rfl | (simp only [FX,Ey,Em,Dj];rfl)) s ?_;simp +decide only [go_sem,Nat.reduceAdd]
  show D4 _ _ _ _ _ _ _ _ [(3,true,.box B.length 0),(4,true,.box (B.length+1) 0)] ⟨(B.set la2 ([.val (.bool b)]))++([c.cs,[Am 0,Am 0,.val (.string (⟨#[]⟩:ByteArray)),.list ([]) .full,.list ([]) .full],q.1.cs]++Xk5),Rk5,L⟩
  refine A9 u j l Y6 (CO f ev) g ow ow ?_
  exact go (tg (a:=([4],()))) h hs u j l f g trivial trivial
def IV (rec:Ex→Cps→Bool→Option (Ex × Bool)) (n:Nat) (g:Ex) (b:List Ex) (plc1_k16:Bool):Option (Ex × Bool) :=
 some ((Ex.mk g.op g.int g.text g.value b,plc1_k16))
def GT (rec:Ex→Cps→Bool→Option (Ex × Bool)) (n:Nat) (q:Ex) (c1_0:Cps):Nat→(List Ex)→Int→Bool→Option (Ex × Bool)
 | 0,_,_,_=>none
 | m+1,g,b,plc1_l19 =>
  if decide (b<(q.args.length:Int)) then
   (Cb q.args b).bind fun y =>
   (rec y c1_0 plc1_l19).bind fun h =>
   if (g.length+1)*80≤140737488355328∧g.length+1≤4611686018427387904 then
    if A6 (b+1) then
     (GT rec n q c1_0 m) (g++([h.1])) (b+1) h.2
    else none
   else none
  else
   IV rec n q g plc1_l19
def Fo (rec:Ex→Cps→Bool→Option (Ex × Bool)) (n:Nat) (h:Ex) (c1_0:Cps) (c1_1:Bool) (b:Bool):Option (Ex × Bool) :=
 if b then
  (IH n h c1_0 c1_1).bind fun g =>
  some ((g.1,g.2))
 else
  GT rec n h c1_0 n ([]) 0 c1_1
def KC (rec:Ex→Cps→Bool→Option (Ex × Bool)) (n:Nat) (b:Ex) (c1_0:Cps) (c1_1:Bool):Option (Ex × Bool) :=
 if decide (b.op=2) then
  Fo rec n b c1_0 c1_1 true
 else
  if decide (b.op=22) then
   Fo rec n b c1_0 c1_1 true
  else
   Fo rec n b c1_0 c1_1 (decide (b.op=26))
def Iq:Nat→Ex→Cps→Bool→Option (Ex × Bool)
 | 0,_,_,_=>none
 | n+1,b,c1_0,c1_1=>KC (Iq n) n b c1_0 c1_1
def KP (w0:World) (F:Ex→Cps→Bool→Option (Ex × Bool)):Prop:=∀ (B:Ao) (Rw:Av) (L:As) (b:Ex) (lc0 lc0p:Nat) (c1_0:Cps) (hlc0:B[lc0]? = some [.box lc0p 0]) (hlc0p:B[lc0p]? = some (.list (c1_0.rules.map A5) .none::(.list (c1_0.targets.map (Jc AK)) .none::(c1_0.mid.cs)))) (lc1:Nat) (c1_1:Bool) (hlc1:B[lc1]? = some ([.val (.bool c1_1)])) (hne_lc1_lc0:lc1≠lc0) (hne_lc1_lc0p:lc1≠lc0p) (r:Ex × Bool),F b c1_0 c1_1=some r→ACalls Tryz.prog w0 77 [.agg (b.cs),.clo 75 [.box lc0 0,.box lc1 0]] ⟨B,Rw,L⟩ fun x st=>x = .agg (r.1.cs)∧st=⟨(B.set lc1 [.val (.bool r.2)]),Rw,L⟩
theorem Qh (w0:World) (hB:Qk w0) (hE:Jl w0) (hM:Jh w0) (hP:Pow10 w0) (rec:Ex→Cps→Bool→Option (Ex × Bool)) (ih:KP w0 rec) (n:Nat):KP w0 (KC rec n):=by
 intro B Rw L a0 J N F g d G H k c b r h
 rw [KC] at h
 refine hd [.cell 4 65] Tryz.func77 Tryz.ntmps77 fun M0 W0 U E D i hu C hs=>?_
 simp only [AA]
 have aj:=(Ak.1 g).1
 have ae:=(Ak.1 d).1
 have ai:=(Ak.1 k).1
 have hs:=Ae (Ar g) hs
 have hs:=Ae (Ar d) hs
 have hs:=Ae (Ar k) hs
 have hs:=Ae (Bd g c) hs
 have hs:=Ae (Bd d b) hs
 refine rg [1,2,4] hs ?_
 apply An;intro K2 ab
 refine rg [1,2,4,9] hs ?_
 apply Aq
 refine AB (fun e st=>∃ (x:Bool),Ck e st B Rw L [(1,true,.clo 75 [.box J 0,.box G 0]),(2,true,.box B.length 0),(4,true,.box (B.length+1) 0),(10,true,.val (.bool x))] [a0.cs,[Am 0,Am 0,.val (.string (⟨#[]⟩:ByteArray)),.list ([]) .full,.list ([]) .full]] [] (Fo rec n a0 F H x=some r)) ?_ ?_
 ·intro K6 ao
  exact go (tg (a:=([1,2,4,9,10],([1,2,4,10],()),[1,2,4,9,10],([1,2,4,10],()),[1,2,4,10],()))) h hs U E D i C trivial (q1 ao)
 ·clear h;rintro e st ⟨x,Xk5,Rk5,rfl,rfl,C,h⟩
  rw [Fo] at h
  refine td U E D i C ?_
  refine BQ h hs ?_ ?_<;>intro hs h
  ·have w:=hs.1
   obtain ⟨au,ad,h⟩:=bind_some h
   refine rc 2 [4] hs ?_;intro K12 aa
   refine ET _ (P3 w0 hB hE hM hP n _ _ _ a0 J N F (ef hs) (ef hs) G H (ef hs) _ ad) (hv hs) ?_;rintro _ _ ⟨rfl,rfl⟩
   exact go (tg (a:=((),()))) h hs U E D i C trivial (q1 aa)
  have w:=hs.1
  refine sk [1,2,4] hs ab ?_
  clear ab
  refine rg [1,2,4,5] hs ?_
  refine AB (fun e st=>∃ (q:List Ex) (o:Bool) (t:Ev.Own) (Xk16:Ao) (Rk16:Av),e=[(2,true,.box B.length 0),(4,true,.box (B.length+1) 0),(5,true,.list (q.map O5) t)]∧st=⟨(B.set G ([.val (.bool o)]))++([a0.cs,[Am 0,Am 0,.val (.string (⟨#[]⟩:ByteArray)),.list ([]) .full,.list ([]) .full]]++Xk16),Rk16,L⟩∧Owns Rw Rk16 [(5,q.length,t)]∧IV rec n a0 q o=some r) ?_ ?_
  ·intro K17 ag
   refine rg [1,2,4,5,18,19,20] hs ?_
   apply Aq
   refine AC (fun m e st=>∃ (l:List Ex) (u:Int) (j:Bool) (v:Ev.Own) (Xl19:Ao) (Rl19:Av),e=[(1,true,.clo 75 [.box J 0,.box G 0]),(2,true,.box B.length 0),(4,true,.box (B.length+1) 0),(5,true,.list (l.map O5) v),(18,true,.list (a0.args.map O5) .none),(19,true,Am (a0.args.length:Int)),(20,true,Am u)]∧st=⟨(B.set G ([.val (.bool j)]))++([a0.cs,[Am 0,Am 0,.val (.string (⟨#[]⟩:ByteArray)),.list ([]) .full,.list ([]) .full]]++Xl19),Rl19,L⟩∧Owns Rw Rl19 [(5,l.length,v)]∧GT rec n a0 F m l u j=some r) n ⟨([]),0,H,.full,([]),Rk5,ef hs,ef hs,Owns.of_eq ((C).full 5 0) D6,h⟩ ?_
   rintro ml19 e st ⟨l,u,j,v,Xl19,Rl19,rfl,rfl,C,h⟩ Ul19 Vl19
   cases ml19 with
   | zero=>cases h
   | succ ml19 =>
   rw [GT] at h
   have hU:=C.unders
   simp only [List.mem_cons,List.not_mem_nil,or_false,forall_eq_or_imp,forall_eq] at hU
   refine A9 U E D Y6 (CO i ev) C ow ow ?_
   refine rg [1,2,4,5,18,19,20,21] hs ?_
   apply An;intro K21 K
   refine BQ h hs ?_ ?_<;>intro hs h
   rotate_left
   ·exact go (tg (a:=([2,4,5],()))) h hs U E D i C trivial (q1 ag)
   refine sk [1,2,4,5,18,19,20] hs K ?_
   clear K
   apply An;intro K23 af
   apply Aq
   obtain ⟨ak,Z,h⟩:=bind_some h
   obtain ⟨am,ap,Q⟩:=Bi Z
   have V:=Bj (f:=O5) Q
   have hs:=Ae V hs
   refine rg [1,2,4,5,7,18,19,20] hs ?_
   obtain ⟨aq,Y,h⟩:=bind_some h
   obtain ⟨O,h⟩:=Au h
   obtain ⟨ar,ah,C,p⟩:=C.append (P:=Tryz.prog) Zc (by rw [T0];rfl) (by decide) 1 O.1 O.2
   replace p:=fun (ys:List AV) B L o2=>p (l.map O5) ys B L o2 D6
   replace p:=fun (y:AV) B L o2=>p [y] B L o2 D6 ev
   try simp only [List.mem_singleton,List.mem_cons,List.not_mem_nil,or_false,forall_eq_or_imp,forall_eq,List.map_append,List.map_cons,List.map_nil,GE,GA,Gj,EQ,EO,F7,Dp,Ek,Ge,CP,CJ,EF,Ez,Et,Gi,Ew,F5] at p
   have hs:=Ae p hs
   refine rk 2 [1,2,4,5,18,19,20] hs ?_
   refine ET _ (ih _ _ _ ak J N F (ef hs) (ef hs) G j (ef hs) nq nq _ Y) (hv hs) ?_;rintro _ _ ⟨rfl,rfl⟩
   exact go (tg (a:=([1,2,4,5,18,19,20],()))) h hs U E D i C trivial (q2 af (fun e s=>Vl19 ml19 e s (Nat.lt_succ_self _)))
  ·clear h;rintro e st ⟨q,o,t,Xk16,Rk16,rfl,rfl,C,h⟩
   rw [IV] at h
   have hU:=C.unders
   simp only [List.mem_cons,List.not_mem_nil,or_false,forall_eq_or_imp,forall_eq] at hU
   refine A9 U E D Y6 (CO i ev) C ow ow ?_
   have hs:=Ae (Ex.cs_eqs a0) hs
   refine rg [2,4] hs ?_
   refine rg [4] hs ?_
   apply A1;simp +decide only [go_sem,Nat.reduceAdd,Ar g,Ar d,Ar k,Bd g c,Bd d b,w,Ex.cs_eqs a0]
   have hgt:=Option.some.inj h;subst hgt
   first | refine C5 (CO i ev) Y6 C.pre ev ⟨?_,(by first | rfl | exact congrArg (fun z=>St.mk z Rw L) (LQ g).symm | exact congrArg (fun z=>St.mk z Rw L) (LQ d).symm | exact congrArg (fun z=>St.mk z Rw L) (LQ k).symm | (simp +decide only [go_sem,Nat.reduceAdd,Ar g,Ar d,Ar k,Bd g c,Bd d b,w,Ex.cs_eqs a0];done))⟩ | refine EP (CO i ev) Y6 C.pre ev ⟨?_,(by first | rfl | exact congrArg (fun z=>St.mk z Rw L) (LQ g).symm | exact congrArg (fun z=>St.mk z Rw L) (LQ d).symm | exact congrArg (fun z=>St.mk z Rw L) (LQ k).symm | (simp +decide only [go_sem,Nat.reduceAdd,Ar g,Ar d,Ar k,Bd g c,Bd d b,w,Ex.cs_eqs a0];done))⟩
   first | rfl | (simp +decide only [go_sem,Nat.reduceAdd,Ar g,Ar d,Ar k,Bd g c,Bd d b,w,Ex.cs_eqs a0];done) | (simp +decide only [go_sem,Nat.reduceAdd,Vl.cs,Ty.cs,Ar g,Ar d,Ar k,Bd g c,Bd d b,w,Ex.cs_eqs a0];done)
theorem JE (w0:World) (hB:Qk w0) (hE:Jl w0) (hM:Jh w0) (hP:Pow10 w0):∀ n:Nat,KP w0 (Iq n)
 | 0=>fun _ _ _ _ _ _ _ _ _ _ _ _ _ _ _ h=>(nomatch h)
 | n+1=>Qh w0 hB hE hM hP (Iq n) (JE w0 hB hE hM hP n) n
def KO (rec:Ex→Option Ex) (n:Nat) (b:Ex) (b2_k21_3:List Vl) (b2_k21_4:List Ex):Option Ex :=
 some (Ex.mk b.op b.int b.text b2_k21_3 b2_k21_4)
def H4 (rec:Ex→Option Ex) (n:Nat) (g:Ex):Nat→Int→(List Vl)→(List Ex)→Option Ex
 | 0,_,_,_=>none
 | m+1,b,b2_l24_3,b2_l24_4 =>
  if decide (b<(g.args.length:Int)) then
   (Cb g.args b).bind fun h =>
   (rec h).bind fun q =>
   if (b2_l24_4.length+1)*80≤140737488355328∧b2_l24_4.length+1≤4611686018427387904 then
    if A6 (b+1) then
     (H4 rec n g m) (b+1) b2_l24_3 (b2_l24_4++([q]))
    else none
   else none
  else
   KO rec n g b2_l24_3 b2_l24_4
def LF (rec:Ex→Option Ex) (n:Nat) (b:Ex) (b2_k4_3:List Vl):Option Ex :=
 H4 rec n b n 0 b2_k4_3 ([])
def I4 (rec:Ex→Option Ex) (n:Nat) (g:Ex):Nat→Int→(List Vl)→Option Ex
 | 0,_,_=>none
 | m+1,b,b2_l7_3 =>
  if decide (b<(g.value.length:Int)) then
   (Cb g.value b).bind fun h =>
   (Dt n h).bind fun q =>
   if (b2_l7_3.length+1)*88≤140737488355328∧b2_l7_3.length+1≤4611686018427387904 then
    if A6 (b+1) then
     (I4 rec n g m) (b+1) (b2_l7_3++([q]))
    else none
   else none
  else
   LF rec n g b2_l7_3
def MR (rec:Ex→Option Ex) (n:Nat) (b:Ex):Option Ex :=
 I4 rec n b n 0 ([])
def J7:Nat→Ex→Option Ex
 | 0,_=>none
 | n+1,b=>MR (J7 n) n b
def MA (w0:World) (F:Ex→Option Ex):Prop:=∀ (B:Ao) (Rw:Av) (L:As) (b:Ex) (r:Ex),F b=some r→ACalls Tryz.prog w0 168 [.agg (b.cs)] ⟨B,Rw,L⟩ fun x st=>x = .agg (r.cs)∧st=⟨B,Rw,L⟩
theorem RX (w0:World) (rec:Ex→Option Ex) (ih:MA w0 rec) (n:Nat):MA w0 (MR rec n):=by
 intro B Rw L a0 r h
 rw [MR] at h
 refine hd [.cell 2 65] Tryz.func168 Tryz.ntmps168 fun M0 W0 C y x u J w hs=>?_
 simp only [AA]
 refine rg [1,2] hs ?_
 refine rg [1,2,3] hs ?_
 refine AB (fun e st=>∃ (g:List Vl) (i:Ev.Own),Ck e st B Rw L [(1,true,.box B.length 0),(2,true,.box (B.length+1) 0),(3,true,.box (B.length+2) 0)] [a0.cs,[Am 0,Am 0,.val (.string (⟨#[]⟩:ByteArray)),.list ([]) .full,.list ([]) .full],[Am a0.op,Am a0.int,.val (.string a0.text),.list (g.map Di) i,.list ([]) .full]] [(6,g.length,i)] (LF rec n a0 g=some r)) ?_ ?_
 ·intro K5 F
  refine rg [1,2,3,16,17,18] hs ?_
  apply Aq
  refine AC (fun m e st=>∃ (v:Int) (p:List Vl) (q:Ev.Own),Ck e st B Rw L [(1,true,.box B.length 0),(2,true,.box (B.length+1) 0),(3,true,.box (B.length+2) 0),(16,true,.list (a0.value.map Di) .none),(17,true,Am (a0.value.length:Int)),(18,true,Am v)] [a0.cs,[Am 0,Am 0,.val (.string (⟨#[]⟩:ByteArray)),.list ([]) .full,.list ([]) .full],[Am a0.op,Am a0.int,.val (.string a0.text),.list (p.map Di) q,.list ([]) .full]] [(6,p.length,q)] (I4 rec n a0 m v p=some r)) n ⟨0,([]),.full,([]),Rw,ef hs,ef hs,Owns.of_eq ((w).full 6 0) D6,h⟩ ?_
  rintro ml7 e st ⟨v,p,q,Xl7,Rl7,rfl,rfl,w,h⟩ Ul7 Vl7
  cases ml7 with
  | zero=>cases h
  | succ ml7 =>
  rw [I4] at h
  exact go (tg (a:=([1,2,3,16,17,18,19],([1,2,3,16,17,18],[1,2,3,5,16,17,18],[5,1,2,3,16,17,18],[1,2,3,16,17,18],()),[1,2,3],()))) h hs C y x u w (q2 (ae LM Ha) (IJ w0 n)) (q2 F (fun e s=>Vl7 ml7 e s (Nat.lt_succ_self _)))
 ·clear h;rintro e st ⟨g,i,Xk4,Rk4,rfl,rfl,w,h⟩
  rw [LF] at h
  have E:=w.unders
  simp only [List.mem_cons,List.not_mem_nil,or_false,forall_eq_or_imp,forall_eq] at E
  refine td C y x u w ?_
  refine AB (fun e st=>∃ (j:List Vl) (k:List Ex) (l:Ev.Own) (o:Ev.Own),Ck e st B Rw L [(2,true,.box (B.length+1) 0),(3,true,.box (B.length+2) 0)] [a0.cs,[Am 0,Am 0,.val (.string (⟨#[]⟩:ByteArray)),.list ([]) .full,.list ([]) .full],[Am a0.op,Am a0.int,.val (.string a0.text),.list (j.map Di) l,.list (k.map O5) o]] [(6,j.length,l),(5,k.length,o)] (KO rec n a0 j k=some r)) ?_ ?_
  ·intro K22 D
   refine rg [2,3,31,32,33] hs ?_
   apply Aq
   refine AC (fun m e st=>∃ (t:Int) (b:List Vl) (c:List Ex) (f:Ev.Own) (d:Ev.Own),Ck e st B Rw L [(2,true,.box (B.length+1) 0),(3,true,.box (B.length+2) 0),(31,true,.list (a0.args.map O5) .none),(32,true,Am (a0.args.length:Int)),(33,true,Am t)] [a0.cs,[Am 0,Am 0,.val (.string (⟨#[]⟩:ByteArray)),.list ([]) .full,.list ([]) .full],[Am a0.op,Am a0.int,.val (.string a0.text),.list (b.map Di) f,.list (c.map O5) d]] [(6,b.length,f),(5,c.length,d)] (H4 rec n a0 m t b c=some r)) n ⟨0,g,([]),i,.full,([]),Rk4,ef hs,ef hs,Owns.of_eq (((w).full 5 0).swap (List.Perm.swap _ _ _)) D6,h⟩ ?_
   rintro ml24 e st ⟨t,b,c,f,d,Xl24,Rl24,rfl,rfl,w,h⟩ Ul24 Vl24
   cases ml24 with
   | zero=>cases h
   | succ ml24 =>
   rw [H4] at h
   have E:=w.unders
   simp only [List.mem_cons,List.not_mem_nil,or_false,forall_eq_or_imp,forall_eq] at E
   obtain ⟨H,G⟩:=E
   refine td C y x u w ?_
   refine rg [2,3,31,32,33,34] hs ?_
   apply An;intro K26 z
   refine BQ h hs ?_ ?_<;>intro hs h
   rotate_left
   ·refine sx [2,3] hs D ?_
    exact ⟨b,c,f,d,([]),Rl24,ef hs,ef hs,Owns.of_eq (((w).swap (List.Perm.swap _ _ _)).swap (List.Perm.swap _ _ _)) D6,h⟩
   exact go (tg (a:=([2,3,31,32,33],[2,3,7,31,32,33],[5,2,3,31,32,33],[2,3,31,32,33],()))) h hs C y x u w (q2 (ae Zc T0) ih) (q2 z (fun e s=>Vl24 ml24 e s (Nat.lt_succ_self _)))
  ·clear h;rintro e st ⟨j,k,l,o,Xk21,Rk21,rfl,rfl,w,h⟩
   rw [KO] at h
   exact go (tg (a:=([2],()))) h hs C y x u w trivial trivial
theorem OB (w0:World):∀ n:Nat,MA w0 (J7 n)
 | 0=>fun _ _ _ _ _ h=>(nomatch h)
 | n+1=>RX w0 (J7 n) (OB w0 n) n
def IK (n:Nat)  (b:List (ByteArray × Ex)):Option ((List (ByteArray × Ex))) :=
 some (b)
def GZ (n:Nat) (y:List (ByteArray × Ex)):Nat→(List (ByteArray × Ex))→Int→Option ((List (ByteArray × Ex)))
 | 0,_,_=>none
 | m+1,g,b =>
  if decide (b<(y.length:Int)) then
   (Cb y b).bind fun h =>
   (J7 n h.2).bind fun q =>
   if (g.length+1)*96≤140737488355328∧g.length+1≤4611686018427387904 then
    if A6 (b+1) then
     (GZ n y m) (g++([(h.1,q)])) (b+1)
    else none
   else none
  else
   IK n g
def JJ (n:Nat) (b:List (ByteArray × Ex)):Option ((List (ByteArray × Ex))) :=
 if 0≤(b.length:Int)∧(b.length:Int)*96≤140737488355328∧(b.length:Int)≤4611686018427387904 then
  GZ n b n ([]) 0
 else none
theorem Q3 (w0:World) (n:Nat) (B:Ao) (Rw:Av) (L:As) (a0:List (ByteArray × Ex)) (r:(List (ByteArray × Ex))) (h:JJ n a0=some r) :
  ACalls Tryz.prog w0 78 [.agg ([.list (a0.map A5) .none])] ⟨B,Rw,L⟩ fun x st=>x = .agg ([.list (r.map A5) .none])∧st=⟨B,Rw,L⟩:=by
 rw [JJ] at h
 refine hd [.cell 2 49] Tryz.func78 Tryz.ntmps78 fun M0 W0 p k l i t j hs=>?_
 simp only [AA]
 refine rg [1,2] hs ?_
 obtain ⟨q,h⟩:=Au h
 have j:=j.make 6 0
 refine rg [1,2,3] hs ?_
 refine AB (fun e st=>∃ (d:List (ByteArray × Ex)) (b:Ev.Own),Ck e st B Rw L [(2,true,.box (B.length+1) 0),(3,true,.list (d.map A5) b)] [[.list (a0.map A5) .none],[.list ([]) .full]] [(6,d.length,b)] (IK n d=some r)) ?_ ?_
 ·intro K7 o
  refine rg [2,3,11,12,13] hs ?_
  apply Aq
  refine AC (fun m e st=>∃ (c:List (ByteArray × Ex)) (f:Int) (g:Ev.Own),Ck e st B Rw L [(2,true,.box (B.length+1) 0),(3,true,.list (c.map A5) g),(11,true,.list (a0.map A5) .none),(12,true,Am (a0.length:Int)),(13,true,Am f)] [[.list (a0.map A5) .none],[.list ([]) .full]] [(6,c.length,g)] (GZ n a0 m c f=some r)) n ⟨([]),0,((.row Rw.length)),([]),((Rw++[.grow 0 6])),ef hs,ef hs,Owns.of_eq (j) D6,h⟩ ?_
  rintro ml9 e st ⟨c,f,g,Xl9,Rl9,rfl,rfl,j,h⟩ Ul9 Vl9
  cases ml9 with
  | zero=>cases h
  | succ ml9 =>
  rw [GZ] at h
  exact go (tg (a:=([2,3,11,12,13,14],([2,3,11,12,13],[2,3,5,11,12,13],[8,2,3,11,12,13],[2,3,11,12,13],()),[2,3],()))) h hs p k l i j (q2 (ae ZB Tj) (OB w0 n)) (q2 o (fun e s=>Vl9 ml9 e s (Nat.lt_succ_self _)))
 ·clear h;rintro e st ⟨d,b,Xk6,Rk6,rfl,rfl,j,h⟩
  rw [IK] at h
  exact go (tg (a:=([2],()))) h hs p k l i j trivial trivial
def IF (n:Nat)  (b4_k36_1:List (List Part)) (b6_k36:Bool) (b7_k36_0:List (ByteArray × Ex)):Option ((List (ByteArray × Ex)) × Int) :=
 if !b6_k36 then
  some (([],22))
 else
  (Gv n b7_k36_0).bind fun b =>
  if !(decide (b=0)) then
   some (([],b))
  else
   (JJ n b7_k36_0).bind fun g =>
   some ((g,0))
def GH (n:Nat) (z:List (ByteArray × Ex)) (q:List (ByteArray × Ex)) (y:Ty):Nat→Int→(List (List Part))→Bool→(List (ByteArray × Ex))→Option ((List (ByteArray × Ex)) × Int)
 | 0,_,_,_,_=>none
 | m+1,b,b4_l39_1,b6_l39,b7_l39_0 =>
  if decide (b<(q.length:Int)) then
   (Cb q b).bind fun g =>
   (Iq n g.2 (Cps.mk z b4_l39_1 y) b6_l39).bind fun h =>
   if (b7_l39_0.length+1)*96≤140737488355328∧b7_l39_0.length+1≤4611686018427387904 then
    if A6 (b+1) then
     (GH n z q y m) (b+1) b4_l39_1 h.2 (b7_l39_0++([(g.1,h.1)]))
    else none
   else none
  else
   IF n b4_l39_1 b6_l39 b7_l39_0
def IW (n:Nat) (g:List (ByteArray × Ex)) (h:List (ByteArray × Ex)) (b:Ty) (b4_k15_1:List (List Part)):Option ((List (ByteArray × Ex)) × Int) :=
 GH n g h b n 0 b4_k15_1 true ([])
def GI (n:Nat) (g:List (ByteArray × Ex)) (z:List (ByteArray × Ex)) (y:Ty):Nat→Int→(List (List Part))→Option ((List (ByteArray × Ex)) × Int)
 | 0,_,_=>none
 | m+1,b,b4_l18_1 =>
  if decide (b<(g.length:Int)) then
   (Cb g b).bind fun q =>
   (Do n q.1).bind fun h =>
   if (b4_l18_1.length+1)*24≤140737488355328∧b4_l18_1.length+1≤4611686018427387904 then
    if A6 (b+1) then
     (GI n g z y m) (b+1) (b4_l18_1++([h.1]))
    else none
   else none
  else
   IW n g z y b4_l18_1
def Kz (n:Nat) (g:List (ByteArray × Ex)) (b:List (ByteArray × Ex)) (h:Ty):Option ((List (ByteArray × Ex)) × Int) :=
 (Db n g).bind fun y4 =>
 (Db n b).bind fun y5 =>
 (EU n h).bind fun y =>
 (Gv n g).bind fun z =>
 (Gv n b).bind fun y8 =>
 (GN n ([y4,y5,y,z,y8])).bind fun q =>
 if !(decide (q=0)) then
  some (([],q))
 else
  GI n g b h n 0 ([])
theorem RN (w0:World) (hB:Qk w0) (hE:Jl w0) (hM:Jh w0) (hP:Pow10 w0) (hT:Lib.Utf8Tabs 2 3 w0) (n:Nat) (B:Ao) (Rw:Av) (L:As) (a0:List (ByteArray × Ex)) (a1:List (ByteArray × Ex)) (a2:Ty) (r:(List (ByteArray × Ex)) × Int) (h:Kz n a0 a1 a2=some r) :
  ACalls Tryz.prog w0 26 [.agg ([.list (a0.map A5) .none]),.agg ([.list (a1.map A5) .none]),.agg (a2.cs)] ⟨B,Rw,L⟩ fun x st=>x = .tup [.agg ([.list (r.1.map A5) .none]),Am r.2]∧st=⟨B,Rw,L⟩:=by
 rw [Kz] at h
 refine hd [.cell 6 49,.tmp 7] Tryz.func26 Tryz.ntmps26 fun M0 W0 hN Y V D hu J hs=>?_
 simp only [AA]
 refine rg [3,4,5,6] hs ?_
 apply An;intro K2 ax
 obtain ⟨y4,ba,h⟩:=bind_some h
 obtain ⟨y5,bg,h⟩:=bind_some h
 obtain ⟨y6,bc,h⟩:=bind_some h
 obtain ⟨y7,a8,h⟩:=bind_some h
 obtain ⟨y8,a7,h⟩:=bind_some h
 obtain ⟨y9,a9,h⟩:=bind_some h
 apply An;intro K3 a3
 refine dk 13 7 1 [3,4,5,6,8] hs PH ?_
 refine Aw _ (Ho w0 hE hM hP n _ _ _ a0 _ ba) (hv hs) ?_
 refine nc hs ?_
 refine Aw _ (Ho w0 hE hM hP n _ _ _ a1 _ bg) (hv hs) ?_
 refine nc hs ?_
 refine Aw _ (Nl w0 hT n _ _ _ a2 _ bc) (hv hs) ?_
 refine nc hs ?_
 refine Aw _ (JC w0 hE hM hP hT n _ _ _ a0 _ a8) (hv hs) ?_
 refine nc hs ?_
 refine Aw _ (JC w0 hE hM hP hT n _ _ _ a1 _ a7) (hv hs) ?_
 refine nc hs ?_
 refine Aw _ (OE w0 n _ _ _ ([y4,y5,y6,y7,y8]) _ a9) (hv hs) ?_
 refine dn hs a3 ?_
 clear a3
 refine rg [3,4,5,6,8,33] hs ?_
 refine BQ h hs ?_ ?_<;>intro hs h
 ·have j:=hs.1
  refine rg [6,7] hs ?_
  exact rt h hs D J
 have j:=hs.1
 refine sk [3,4,5,6] hs ax ?_
 clear ax
 have hs:=Ae (Ty.cs_eqs a2) hs
 refine rg [3,4,6,9] hs ?_
 refine AB (fun e st=>∃ (k:List (List Part)) (u:Ev.Own),Ck e st B Rw L [(4,true,.box (B.length+1) 0),(6,true,.box (B.length+3) 0),(9,true,.box (B.length+5) 0)] [[.list (a0.map A5) .none],[.list (a1.map A5) .none],a2.cs,[.list ([]) .full],[.list (a0.map A5) .none,.list (k.map (Jc AK)) u,Am a2.kind,Am a2.min,Am a2.max,Am a2.scale,.list (a2.words.map CB) .none,.list (a2.elem.map J1) .none,.list (a2.fields.map Cd) .none],[.box (B.length+4) 0]] [(1,k.length,u)] (IW n a0 a1 a2 k=some r)) ?_ ?_
 ·intro K16 az
  refine rg [4,6,9,42,43,44] hs ?_
  apply Aq
  refine AC (fun m e st=>∃ (O:Int) (p:List (List Part)) (C:Ev.Own),Ck e st B Rw L [(4,true,.box (B.length+1) 0),(6,true,.box (B.length+3) 0),(9,true,.box (B.length+5) 0),(42,true,.list (a0.map A5) .none),(43,true,Am (a0.length:Int)),(44,true,Am O)] [[.list (a0.map A5) .none],[.list (a1.map A5) .none],a2.cs,[.list ([]) .full],[.list (a0.map A5) .none,.list (p.map (Jc AK)) C,Am a2.kind,Am a2.min,Am a2.max,Am a2.scale,.list (a2.words.map CB) .none,.list (a2.elem.map J1) .none,.list (a2.fields.map Cd) .none],[.box (B.length+4) 0]] [(1,p.length,C)] (GI n a0 a1 a2 m O p=some r)) n ⟨0,([]),.full,([]),Rw,ef hs,ef hs,Owns.of_eq ((J).full 1 0) D6,h⟩ ?_
  rintro ml18 e st ⟨O,p,C,Xl18,Rl18,rfl,rfl,J,h⟩ Ul18 Vl18
  cases ml18 with
  | zero=>cases h
  | succ ml18 =>
  rw [GI] at h
  have hU:=J.unders
  simp only [List.mem_cons,List.not_mem_nil,or_false,forall_eq_or_imp,forall_eq] at hU
  refine td hN Y V D J ?_
  refine rg [4,6,9,42,43,44,45] hs ?_
  apply An;intro K20 ae
  refine BQ h hs ?_ ?_<;>intro hs h
  rotate_left
  ·have U:=hs.1
   refine sx [4,6,9] hs az ?_
   exact ⟨p,C,([]),Rl18,ef hs,ef hs,Owns.of_eq (J) D6,h⟩
  have U:=hs.1
  refine sk [4,6,9,42,43,44] hs ae ?_
  clear ae
  apply An;intro K22 ad
  apply Aq
  obtain ⟨ak,av,h⟩:=bind_some h
  obtain ⟨be,a6,am⟩:=Bi av
  have N:=Bj (f:=A5) am
  have hs:=Ae N hs
  refine rg [4,6,9,11,42,43,44] hs ?_
  obtain ⟨bj,a4,h⟩:=bind_some h
  refine rc 2 [4,6,9,12,42,43,44] hs ?_;intro K25 aj
  refine Aw _ (Gx w0 hE hM hP n _ _ _ ak.1 _ a4) (hv hs) ?_
  refine ne hs aj ?_
  clear aj
  obtain ⟨af,h⟩:=Au h
  obtain ⟨bi,a5,J,t⟩:=J.append (P:=Tryz.prog) Wv (by rw [N6];rfl) (by decide) 1 af.1 af.2
  replace t:=fun (ys:List AV) B L o2=>t (p.map (Jc AK)) ys B L o2 D6
  replace t:=fun (y:AV) B L o2=>t [y] B L o2 D6 ev
  try simp only [List.mem_singleton,List.mem_cons,List.not_mem_nil,or_false,forall_eq_or_imp,forall_eq,List.map_append,List.map_cons,List.map_nil,GE,GA,Gj,EQ,EO,F7,Dp,Ek,Ge,CP,CJ,EF,Ez,Et,Gi,Ew,F5] at t
  apply TJ PH [7,10] [4] [4,6,9,42,43,44] kr (fun s=>∃ (X:Ao) (rows:Av) (c4:List AV),s=⟨B++([[.list (a0.map A5) .none],[.list (a1.map A5) .none],[Am a2.kind,Am a2.min,Am a2.max,Am a2.scale,.list (a2.words.map CB) .none,.list (a2.elem.map J1) .none,.list (a2.fields.map Cd) .none],[.list ([]) .full],c4,[.box (B.length+4) 0],.val (.string ak.1)::(ak.2.cs)]++X),rows,L⟩) 3 (B.length+7)
  ·simp +decide only [go_sem,Nat.reduceAdd]
  ·refine ⟨1,?_⟩
   rw [Ap];simp +decide only [go_sem,Nat.reduceAdd,Dk,j,Ty.cs_eqs a2,U,N,t]
   (repeat' apply Ae)<;>first | rfl | exact cl
  ·rintro s ⟨X,rows,c4,rfl⟩
   refine ⟨1,?_⟩
   rw [Ap];simp +decide only [go_sem,Nat.reduceAdd,Dk,List.append_eq,List.cons_append,List.nil_append,j,Ty.cs_eqs a2,U,N,t]
   have hs:=Ae t hs
   (repeat' apply Ae)<;>first | rfl | ((repeat (first | exact .nil | refine .cons (ef hs) ?_));done) | exact cl
  ·exact gd (tg (a:=(7,10,[4,6,9,42,43,44]))) (Ae t (Ae N (Ae (Ty.cs_eqs a2) hs)))
  simp +decide only [go_sem,Nat.reduceAdd,j,Ty.cs_eqs a2,U,N,t]
  (repeat' apply Ae)<;>first | refine ad _ _ ?_ | exact cl
  clear ad
  exact go (tg (a:=([4,6,9,42,43,44],()))) h (Ae t hs) hN Y V D J trivial (q1 (fun e s=>Vl18 ml18 e s (Nat.lt_succ_self _)))
 ·clear h;rintro e st ⟨k,u,Xk15,Rk15,rfl,rfl,J,h⟩
  rw [IW] at h
  have hU:=J.unders
  simp only [List.mem_cons,List.not_mem_nil,or_false,forall_eq_or_imp,forall_eq] at hU
  refine td hN Y V D J ?_
  refine rg [4,6,9,14] hs ?_
  refine rg [4,6,14,15] hs ?_
  refine rg [4,6,14,15,16] hs ?_
  refine AB (fun e st=>∃ (F:List (List Part)) (K:Bool) (q:List (ByteArray × Ex)) (G:AV) (w:Ev.Own),Ck e st B Rw L [(6,true,.box (B.length+3) 0),(14,true,.box (B.length+6) 0),(16,true,.box (B.length+7) 0)] [[.list (a0.map A5) .none],[.list (a1.map A5) .none],a2.cs,[.list ([]) .full],[.list (a0.map A5) .none,G,Am a2.kind,Am a2.min,Am a2.max,Am a2.scale,.list (a2.words.map CB) .none,.list (a2.elem.map J1) .none,.list (a2.fields.map Cd) .none],[.box (B.length+4) 0],[.val (.bool K)],[.list (q.map A5) w]] [(6,q.length,w)] (G.pub = .list (F.map (Jc AK)) .none∧IF n F K q=some r)) ?_ ?_
  ·intro K37 ay
   refine rg [6,14,15,16,67,68,69] hs ?_
   apply Aq
   refine AC (fun m e st=>∃ (E:Int) (d:List (List Part)) (z:Bool) (g:List (ByteArray × Ex)) (H:AV) (v:Ev.Own),Ck e st B Rw L [(6,true,.box (B.length+3) 0),(14,true,.box (B.length+6) 0),(15,true,.clo 75 [.box (B.length+5) 0,.box (B.length+6) 0]),(16,true,.box (B.length+7) 0),(67,true,.list (a1.map A5) .none),(68,true,Am (a1.length:Int)),(69,true,Am E)] [[.list (a0.map A5) .none],[.list (a1.map A5) .none],a2.cs,[.list ([]) .full],[.list (a0.map A5) .none,H,Am a2.kind,Am a2.min,Am a2.max,Am a2.scale,.list (a2.words.map CB) .none,.list (a2.elem.map J1) .none,.list (a2.fields.map Cd) .none],[.box (B.length+4) 0],[.val (.bool z)],[.list (g.map A5) v]] [(6,g.length,v)] (H.pub = .list (d.map (Jc AK)) .none∧GH n a0 a1 a2 m E d z g=some r)) n ⟨0,k,true,([]),(.list (k.map (Jc AK)) u),.full,([]),Rk15,ef hs,ef hs,Owns.of_eq (((J).full 6 0).sub (List.sublist_append_left [(6,0,Own.full)] [(1,k.length,u)])) D6,ef hs,h⟩ ?_
   rintro ml39 e st ⟨E,d,z,g,H,v,Xl39,Rl39,rfl,rfl,J,ap,h⟩ Ul39 Vl39
   cases ml39 with
   | zero=>cases h
   | succ ml39 =>
   rw [GH] at h
   refine Ia (B.length+4) 1 (by first | rfl | (simp only [FX,Ey,Em,Dj];rfl)) rfl ap ?_;simp +decide only [go_sem,Nat.reduceAdd]
   show D4 _ _ _ _ _ _ _ _ [(6,true,.box (B.length+3) 0),(14,true,.box (B.length+6) 0),(15,true,.clo 75 [.box (B.length+5) 0,.box (B.length+6) 0]),(16,true,.box (B.length+7) 0),(67,true,.list (a1.map A5) .none),(68,true,Am (a1.length:Int)),(69,true,Am E)] ⟨B++([[.list (a0.map A5) .none],[.list (a1.map A5) .none],a2.cs,[.list ([]) .full],[.list (a0.map A5) .none,.list (d.map (Jc AK)) .none,Am a2.kind,Am a2.min,Am a2.max,Am a2.scale,.list (a2.words.map CB) .none,.list (a2.elem.map J1) .none,.list (a2.fields.map Cd) .none],[.box (B.length+4) 0],[.val (.bool z)],[.list (g.map A5) v]]++Xl39),Rl39,L⟩
   have hU:=J.unders
   simp only [List.mem_cons,List.not_mem_nil,or_false,forall_eq_or_imp,forall_eq] at hU
   refine td hN Y V D J ?_
   refine rg [6,14,15,16,67,68,69,70] hs ?_
   apply An;intro K41 ai
   refine BQ h hs ?_ ?_<;>intro hs h
   rotate_left
   ·have l:=hs.1
    refine sx [6,14,16] hs ay ?_
    exact ⟨d,z,g,(.list (d.map (Jc AK)) .none),v,([]),Rl39,ef hs,ef hs,Owns.of_eq (J) D6,ef hs,h⟩
   have l:=hs.1
   refine sk [6,14,15,16,67,68,69] hs ai ?_
   clear ai
   apply An;intro K43 ag
   apply Aq
   obtain ⟨Q,ar,h⟩:=bind_some h
   obtain ⟨bd,bf,ao⟩:=Bi ar
   have c:=Bj (f:=A5) ao
   have hs:=Ae c hs
   refine rg [6,14,15,16,18,67,68,69] hs ?_
   obtain ⟨o,ab,h⟩:=bind_some h
   obtain ⟨aa,h⟩:=Au h
   obtain ⟨bb,Z,J,b⟩:=J.append (P:=Tryz.prog) ZB (by rw [Tj];rfl) (by decide) 1 aa.1 aa.2
   replace b:=fun (ys:List AV) B L o2=>b (g.map A5) ys B L o2 D6
   replace b:=fun (y:AV) B L o2=>b [y] B L o2 D6 ev
   try simp only [List.mem_singleton,List.mem_cons,List.not_mem_nil,or_false,forall_eq_or_imp,forall_eq,List.map_append,List.map_cons,List.map_nil,GE,GA,Gj,EQ,EO,F7,Dp,Ek,Ge,CP,CJ,EF,Ez,Et,Gi,Ew,F5] at b
   apply J2 PH [1,7,8,9,10,12] [6,14,15,16,67,68,69] kr (fun s=>∃ (X:Ao) (rows:Av) (c6:List AV) (c7:List AV),s=⟨B++([[.list (a0.map A5) .none],[.list (a1.map A5) .none],[Am a2.kind,Am a2.min,Am a2.max,Am a2.scale,.list (a2.words.map CB) .none,.list (a2.elem.map J1) .none,.list (a2.fields.map Cd) .none],[.list ([]) .full],[.list (a0.map A5) .none,.list (d.map (Jc AK)) .none,Am a2.kind,Am a2.min,Am a2.max,Am a2.scale,.list (a2.words.map CB) .none,.list (a2.elem.map J1) .none,.list (a2.fields.map Cd) .none],[.box (B.length+4) 0],c6,c7,.val (.string Q.1)::(Q.2.cs)]++X),rows,L⟩) 7 (B.length+9)
   ·simp +decide only [go_sem,Nat.reduceAdd]
   ·rintro s ⟨X,rows,c6,c7,rfl⟩
    refine ⟨1,?_⟩
    rw [Ap];simp +decide only [go_sem,Nat.reduceAdd,Dk,j,Ty.cs_eqs a2,l,c,Ex.cs_eqs o.1,b]
    (repeat' apply Ae)<;>first | rfl | exact cl
   ·refine Good.mk [1,7] kr ⟨[],_,_,_,by first | rfl | simp only [List.append_nil,List.nil_append]⟩ ?_ ?_
    ·intro h;exact absurd h (by decide)
    ·intro i hi;simp only [List.mem_cons,List.not_mem_nil,or_false] at hi
     rcases hi with rfl | rfl
     ·apply Ec rfl rfl ev
      ·simp +decide only [go_sem,Nat.reduceAdd,E7,j,Ty.cs_eqs a2,l,c,Ex.cs_eqs o.1,b]
       (repeat' apply Ae)<;>first | rfl | exact cl
      ·simp +decide only [go_sem,Nat.reduceAdd,j,Ty.cs_eqs a2,l,c,Ex.cs_eqs o.1,b]
       refine Good.mk [7] kr ⟨[],_,_,_,by first | rfl | simp only [List.append_nil,List.nil_append]⟩ ?_ ?_
       ·intro h;exact absurd h (by decide)
       ·intro i hi;simp only [List.mem_cons,List.not_mem_nil,or_false] at hi
        subst hi
        ·apply Ec rfl rfl ev
         ·simp +decide only [go_sem,Nat.reduceAdd,E7,j,Ty.cs_eqs a2,l,c,Ex.cs_eqs o.1,b]
          have hs:=Ae (Ex.cs_eqs o.1) hs
          have hs:=Ae b hs
          (repeat' with_reducible apply Ae)<;>first | exact Qs (JE w0 hB hE hM hP n _ _ _ Q.2 (B.length+5) (B.length+4) (Cps.mk a0 d a2) (ef hs) (ef hs) (B.length+6) z (ef hs) nq nq _ ab) (hv hs) | rfl | exact cl
         ·simp +decide only [go_sem,Nat.reduceAdd,j,Ty.cs_eqs a2,l,c,Ex.cs_eqs o.1,b]
          exact gd (tg (a:=(8,9,10,12,[6,14,15,16,67,68,69]))) (Ae b (Ae (Ex.cs_eqs o.1) (Ae c (Ae (Ty.cs_eqs a2) hs))))
     ·apply Ec rfl rfl ev
      ·simp +decide only [go_sem,Nat.reduceAdd,E7,j,Ty.cs_eqs a2,l,c,Ex.cs_eqs o.1,b]
       have hs:=Ae (Ex.cs_eqs o.1) hs
       have hs:=Ae b hs
       (repeat' with_reducible apply Ae)<;>first | exact Qs (JE w0 hB hE hM hP n _ _ _ Q.2 (B.length+5) (B.length+4) (Cps.mk a0 d a2) (ef hs) (ef hs) (B.length+6) z (ef hs) nq nq _ ab) (hv hs) | rfl | exact cl
      ·simp +decide only [go_sem,Nat.reduceAdd,j,Ty.cs_eqs a2,l,c,Ex.cs_eqs o.1,b]
       refine Good.mk [1,8] kr ⟨[],_,_,_,by first | rfl | simp only [List.append_nil,List.nil_append]⟩ ?_ ?_
       ·intro h;exact absurd h (by decide)
       ·intro i hi;simp only [List.mem_cons,List.not_mem_nil,or_false] at hi
        rcases hi with rfl | rfl
        ·apply Ec rfl rfl ev
         ·simp +decide only [go_sem,Nat.reduceAdd,E7,j,Ty.cs_eqs a2,l,c,Ex.cs_eqs o.1,b]
          (repeat' apply Ae)<;>first | rfl | exact cl
         ·simp +decide only [go_sem,Nat.reduceAdd,j,Ty.cs_eqs a2,l,c,Ex.cs_eqs o.1,b]
          exact gd (tg (a:=(8,9,10,12,[6,14,15,16,67,68,69]))) (Ae b (Ae (Ex.cs_eqs o.1) (Ae c (Ae (Ty.cs_eqs a2) hs))))
        ·apply Ec rfl rfl ev
         ·simp +decide only [go_sem,Nat.reduceAdd,E7,j,Ty.cs_eqs a2,l,c,Ex.cs_eqs o.1,b]
          (repeat' apply Ae)<;>first | rfl | exact cl
         ·simp +decide only [go_sem,Nat.reduceAdd,j,Ty.cs_eqs a2,l,c,Ex.cs_eqs o.1,b]
          refine Good.mk [1,9] kr ⟨[],_,_,_,by first | rfl | simp only [List.append_nil,List.nil_append]⟩ ?_ ?_
          ·intro h;exact absurd h (by decide)
          ·intro i hi;simp only [List.mem_cons,List.not_mem_nil,or_false] at hi
           rcases hi with rfl | rfl
           ·apply Ec rfl rfl ev
            ·simp +decide only [go_sem,Nat.reduceAdd,E7,j,Ty.cs_eqs a2,l,c,Ex.cs_eqs o.1,b]
             (repeat' apply Ae)<;>first | rfl | exact cl
            ·simp +decide only [go_sem,Nat.reduceAdd,j,Ty.cs_eqs a2,l,c,Ex.cs_eqs o.1,b]
             exact gd (tg (a:=(9,10,12,[6,14,15,16,67,68,69]))) (Ae b (Ae (Ex.cs_eqs o.1) (Ae c (Ae (Ty.cs_eqs a2) hs))))
           ·apply Ec rfl rfl ev
            ·simp +decide only [go_sem,Nat.reduceAdd,E7,j,Ty.cs_eqs a2,l,c,Ex.cs_eqs o.1,b]
             (repeat' apply Ae)<;>first | rfl | exact cl
            ·simp +decide only [go_sem,Nat.reduceAdd,j,Ty.cs_eqs a2,l,c,Ex.cs_eqs o.1,b]
             exact gd (tg (a:=(1,10,12,[6,14,15,16,67,68,69]))) (Ae b (Ae (Ex.cs_eqs o.1) (Ae c (Ae (Ty.cs_eqs a2) hs))))
   simp +decide only [go_sem,Nat.reduceAdd,j,Ty.cs_eqs a2,l,c,Ex.cs_eqs o.1,b]
   (repeat' apply Ae)<;>first | refine ag _ _ ?_ | exact cl
   clear ag
   obtain ⟨bh,h⟩:=Au h
   have hs:=Ae (Ex.cs_eqs o.1) hs
   have hs:=Ae b hs
   refine rl [6,14,15,16,67,68,69] hs (fun e s=>Vl39 ml39 e s (Nat.lt_succ_self _)) ?_
   exact ⟨(E+1),d,o.2,(g++([(Q.1,o.1)])),(.list (d.map (Jc AK)) .none),bb,([.val (.string Q.1)::(Q.2.cs)]),Z,ef hs,ef hs,Owns.of_eq (J) D6,ef hs,h⟩
  ·clear h;rintro e st ⟨F,K,q,G,w,Xk36,Rk36,rfl,rfl,J,ap,h⟩
   rw [IF] at h
   refine Ia (B.length+4) 1 (by first | rfl | (simp only [FX,Ey,Em,Dj];rfl)) rfl ap ?_;simp +decide only [go_sem,Nat.reduceAdd]
   show D4 _ _ _ _ _ _ _ _ [(6,true,.box (B.length+3) 0),(14,true,.box (B.length+6) 0),(16,true,.box (B.length+7) 0)] ⟨B++([[.list (a0.map A5) .none],[.list (a1.map A5) .none],a2.cs,[.list ([]) .full],[.list (a0.map A5) .none,.list (F.map (Jc AK)) .none,Am a2.kind,Am a2.min,Am a2.max,Am a2.scale,.list (a2.words.map CB) .none,.list (a2.elem.map J1) .none,.list (a2.fields.map Cd) .none],[.box (B.length+4) 0],[.val (.bool K)],[.list (q.map A5) w]]++Xk36),Rk36,L⟩
   have hU:=J.unders
   simp only [List.mem_cons,List.not_mem_nil,or_false,forall_eq_or_imp,forall_eq] at hU
   refine td hN Y V D J ?_
   apply An;intro K52 ah
   refine rg [6,16,87] hs ?_
   refine BQ h hs ?_ ?_<;>intro hs h
   ·refine rg [6,7] hs ?_
    exact rt h hs D J
   refine sk [6,16] hs ah ?_
   clear ah
   apply An;intro K56 aw
   obtain ⟨bk,au,h⟩:=bind_some h
   refine rc 2 [6,16,19] hs ?_;intro K57 aq
   refine Aw _ (JC w0 hE hM hP hT n _ _ _ q _ au) (hv hs) ?_
   exact go (tg (a:=([6,16,19,92],([6,7],()),[6,16],[6,7],()))) h hs hN Y V D J (q1 (Q3 w0 n)) (q2 aq aw)
def Jm (n:Nat) (h:List (ByteArray × Ex)) (q:Ty) (g:ByteArray):Option ((List ByteArray) × Int) :=
 (FK n h q g).bind fun b =>
 some ((b.2.1,b.2.2))
theorem Qj (w0:World) (hE:Jl w0) (hM:Jh w0) (hP:Pow10 w0) (hT:Lib.Utf8Tabs 2 3 w0) (n:Nat) (B:Ao) (Rw:Av) (L:As) (a0:List (ByteArray × Ex)) (a1:Ty) (a2:ByteArray) (r:(List ByteArray) × Int) (h:Jm n a0 a1 a2=some r) :
  ACalls Tryz.prog w0 21 [.agg ([.list (a0.map A5) .none]),.agg (a1.cs),.val (.string a2)] ⟨B,Rw,L⟩ fun x st=>x = .tup [.list (r.1.map CB) .none,Am r.2]∧st=⟨B,Rw,L⟩:=by
 rw [Jm] at h
 refine hd [.tmp 6,.tmp 7] Tryz.func21 Tryz.ntmps21 fun M0 W0 i d e a j f hs=>?_
 simp only [AA]
 refine rg [2,3,4] hs ?_
 obtain ⟨g,c,h⟩:=bind_some h
 refine rc 2 [9,10] hs ?_;intro K2 b
 refine Aw _ (NA w0 hE hM hP hT n _ _ _ a0 a1 a2 _ c) (hv hs) ?_
 refine ne hs b ?_
 clear b
 refine rg [6,7] hs ?_
 exact rt h hs a f
def Jf (n:Nat)  : Option Bool :=
 (KG n ([(⟨#[105,100]⟩:ByteArray),(⟨#[97,109,111,117,110,116]⟩:ByteArray)]) (Ty.mk 2 0 99 0 ([]) ([]) ([]))).bind fun b =>
 (I1 n ([(⟨#[115,107,117]⟩:ByteArray),(⟨#[113,116,121]⟩:ByteArray)]) (Ty.mk 2 0 99 0 ([]) ([]) ([]))).bind fun z =>
 if (b.fields.length+1)*160≤140737488355328∧b.fields.length+1≤4611686018427387904 then
  (Jm n ([BN ((⟨#[105,100]⟩:ByteArray)) (BJ ((⟨#[98,111,100,121,46,105,100]⟩:ByteArray))),BN ((⟨#[116,111,116,97,108]⟩:ByteArray)) (Ex.mk 26 0 ((⟨#[98,111,100,121,46,105,116,101,109,115,91,42,93,46,113,116,121]⟩:ByteArray)) ([]) ([]))]) (Ty.mk b.kind b.min b.max b.scale b.words b.elem (b.fields++[(3,(⟨#[105,116,101,109,115]⟩:ByteArray),1,Ty.mk 8 0 9 0 ([]) ([z]) ([]),[])])) ((⟨#[98,111,100,121]⟩:ByteArray))).bind fun g =>
  if (!(decide (g.2=0)))||(!(decide ((g.1.length:Int)=2))) then
   some (false)
  else
   (Cb g.1 0).bind fun x24 =>
   if !(Gn x24 ((⟨#[97,109,111,117,110,116]⟩:ByteArray))) then
    some (false)
   else
    (Cb g.1 1).bind fun x28 =>
    if !(Gn x28 ((⟨#[105,116,101,109,115,91,42,93,46,115,107,117]⟩:ByteArray))) then
     some (false)
    else
     (I1 n ([(⟨#[110]⟩:ByteArray)]) (Ty.mk 2 0 99 0 ([]) ([]) ([]))).bind fun y34 =>
     (Kz n ([BN ((⟨#[110]⟩:ByteArray)) (Ex.mk 12 0 (⟨#[]⟩:ByteArray) ([]) ([BJ ((⟨#[98,111,100,121,46,97]⟩:ByteArray)),BJ ((⟨#[98,111,100,121,46,98]⟩:ByteArray))]))]) ([BN ((⟨#[116,119,105,99,101]⟩:ByteArray)) (Ex.mk 14 0 (⟨#[]⟩:ByteArray) ([]) ([BJ ((⟨#[98,111,100,121,46,110]⟩:ByteArray)),Ex.mk 1 0 (⟨#[]⟩:ByteArray) ([Vl.mk 2 2 0 (⟨#[]⟩:ByteArray) ([]) ([])]) ([])]))]) y34).bind fun h =>
     if (decide (h.2=0))&&(decide ((h.1.length:Int)=1)) then
      (Cb h.1 0).bind fun q =>
      if Gn q.1 ((⟨#[116,119,105,99,101]⟩:ByteArray)) then
       if decide ((q.2.args.length:Int)=2) then
        (Cb q.2.args 0).bind fun y =>
        some (decide (y.op=12))
       else
        some (false)
      else
       some (false)
     else
      some (false)
 else none
theorem ME (w0:World) (hB:Qk w0) (hE:Jl w0) (hM:Jh w0) (hP:Pow10 w0) (hT:Lib.Utf8Tabs 2 3 w0) (n:Nat) (B:Ao) (Rw:Av) (L:As)  (r:Bool) (h:Jf n  = some r) :
  ACalls Tryz.prog w0 24 [] ⟨B,Rw,L⟩ fun x st=>x = .val (.bool r)∧st=⟨B,Rw,L⟩:=by
 rw [Jf] at h
 refine hd [.tmp 0] Tryz.func24 Tryz.ntmps24 fun M0 W0 hN a2 az j hu t hs=>?_
 simp only [AA]
 apply An;intro K1 ae
 apply Ax 1 []
 rw [Ap];simp +decide only [go_sem,Nat.reduceAdd,Vl.cs_mks,Ty.cs_mks,List.map_nil]
 (repeat' apply Ae)<;>first | refine ae _ _ ?_ | exact cl
 clear ae
 apply An;intro K2 Z
 apply Ax 1 [1]
 rw [Ap];simp +decide only [go_sem,Nat.reduceAdd,Vl.cs_mks,Ty.cs_mks,List.map_nil]
 (repeat' apply Ae)<;>first | refine Z _ _ ?_ | exact cl
 clear Z
 apply An;intro K3 af
 apply Ax 1 [2]
 rw [Ap];simp +decide only [go_sem,Nat.reduceAdd,Vl.cs_mks,Ty.cs_mks,List.map_nil]
 (repeat' apply Ae)<;>first | refine af _ _ ?_ | exact cl
 clear af
 apply An;intro K4 ab
 refine Ia B.length 4 (by first | rfl | (simp only [FX,Ey,Em,Dj];rfl)) rfl rfl ?_;simp +decide only [go_sem,Nat.reduceAdd]
 refine Ia B.length 5 (by first | rfl | (simp only [FX,Ey,Em,Dj];rfl)) rfl rfl ?_;simp +decide only [go_sem,Nat.reduceAdd]
 refine Ia B.length 6 (by first | rfl | (simp only [FX,Ey,Em,Dj];rfl)) rfl rfl ?_;simp +decide only [go_sem,Nat.reduceAdd]
 obtain ⟨v,av,h⟩:=bind_some h
 apply Ax 2 [2,3]
 rw [Ap];simp +decide only [go_sem,Nat.reduceAdd,Vl.cs_mks,Ty.cs_mks,List.map_nil]
 (repeat' apply Ae)<;>first | (refine ET _ (RJ w0 n _ _ _ ([(⟨#[105,100]⟩:ByteArray),(⟨#[97,109,111,117,110,116]⟩:ByteArray)]) B.length (Ty.mk 2 0 99 0 ([]) ([]) ([])) (by simp +decide only [go_sem,Nat.reduceAdd,Vl.cs_mks,Ty.cs_mks,List.map_nil]) _ av) (by first | rfl | (simp +decide only [go_sem,Nat.reduceAdd,Vl.cs_mks,Ty.cs_mks,List.map_nil];done) | (simp +decide only [go_sem,Nat.reduceAdd,Vl.cs,Ty.cs,Vl.cs_mks,Ty.cs_mks,List.map_nil];done)) ?_;rintro _ _ ⟨o7,Rv8,rfl,rfl,Q⟩) | exact cl
 have t:=t.callV Q
 rw [Ap];simp +decide only [go_sem,Nat.reduceAdd,Vl.cs_mks,Ty.cs_mks,List.map_nil]
 (repeat' apply Ae)<;>first | refine ab _ _ ?_ | exact cl
 clear ab
 apply An;intro K9 ad
 obtain ⟨w,aa,h⟩:=bind_some h
 obtain ⟨z,h⟩:=Au h
 obtain ⟨a0,ai,t,a⟩:=t.appendV (P:=Tryz.prog) (n:=v.fields.length) (m:=1) TM (by rw [NV];rfl) (by decide) ((KN (f:=Cd) (sz:=11) (fun _=>by simp +decide only [go_sem]) _)) z.1 z.2 [Cd ((3,(⟨#[105,116,101,109,115]⟩:ByteArray),1,Ty.mk 8 0 9 0 ([]) ([w]) ([]),[]))] rfl ((v.fields++[(3,(⟨#[105,116,101,109,115]⟩:ByteArray),1,Ty.mk 8 0 9 0 ([]) ([w]) ([]),[])]).flatMap fun x=>(Cd x).cells) (by simp only [List.flatMap_append,List.flatMap_cons,List.flatMap_nil,List.append_nil,List.nil_append,VZ])
 simp only [List.mem_singleton,forall_eq,GE,GA,Gj,EQ,EO,F7,Dp,Ek,Ge,CP,CJ,EF,Ez,Et,Gi,Ew,F5,Ty.cs_mks,List.cons_append,List.nil_append,List.map_nil,List.map_cons] at a
 apply S1 PH 9 2 1 [2,3] kr
 rw [Ap];simp +decide only [go_sem,Nat.reduceAdd,Vl.cs_mks,Ty.cs_mks,List.map_nil,a]
 (repeat' apply Ae)<;>first | refine Aw _ (NQ w0 n _ _ _ ([(⟨#[115,107,117]⟩:ByteArray),(⟨#[113,116,121]⟩:ByteArray)]) B.length (Ty.mk 2 0 99 0 ([]) ([]) ([])) (by simp +decide only [go_sem,Nat.reduceAdd,Vl.cs_mks,Ty.cs_mks,List.map_nil]) _ aa) (by first | rfl | (simp +decide only [go_sem,Nat.reduceAdd,Vl.cs_mks,Ty.cs_mks,List.map_nil,a];done) | (simp +decide only [go_sem,Nat.reduceAdd,Vl.cs,Ty.cs,Vl.cs_mks,Ty.cs_mks,List.map_nil,a];done)) ?_ | exact cl
 rw [Ap];simp +decide only [go_sem,Nat.reduceAdd,Vl.cs_mks,Ty.cs_mks,List.map_nil,a]
 (repeat' with_reducible apply Ae)<;>first | (rw [Ap];simp +decide only [go_sem,Nat.reduceAdd,Vl.cs_mks,Ty.cs_mks,List.map_nil,a]) | exact cl
 (repeat' apply Ae)<;>first | refine ad _ _ ?_ | exact cl
 clear ad
 apply An;intro K15 C
 apply Ax 4 [2,3,4]
 rw [Ap];simp +decide only [go_sem,Nat.reduceAdd,Vl.cs_mks,Ty.cs_mks,List.map_nil,a]
 (repeat' apply Ae)<;>first | refine Aw _ (K0 w0 _ _ _ ((⟨#[98,111,100,121,46,105,100]⟩:ByteArray))) (by first | rfl | (simp +decide only [go_sem,Nat.reduceAdd,Vl.cs_mks,Ty.cs_mks,List.map_nil,a];done) | (simp +decide only [go_sem,Nat.reduceAdd,Vl.cs,Ty.cs,Vl.cs_mks,Ty.cs_mks,List.map_nil,a];done)) ?_ | exact cl
 rw [Ap];simp +decide only [go_sem,Nat.reduceAdd,Vl.cs_mks,Ty.cs_mks,List.map_nil,a]
 (repeat' apply Ae)<;>first | refine Aw _ (J9 w0 _ _ _ ((⟨#[105,100]⟩:ByteArray)) (BJ ((⟨#[98,111,100,121,46,105,100]⟩:ByteArray)))) (by first | rfl | (simp +decide only [go_sem,Nat.reduceAdd,Vl.cs_mks,Ty.cs_mks,List.map_nil,a];done) | (simp +decide only [go_sem,Nat.reduceAdd,Vl.cs,Ty.cs,Vl.cs_mks,Ty.cs_mks,List.map_nil,a];done)) ?_ | exact cl
 rw [Ap];simp +decide only [go_sem,Nat.reduceAdd,Vl.cs_mks,Ty.cs_mks,List.map_nil,a]
 (repeat' apply Ae)<;>first | refine Aw _ (J9 w0 _ _ _ ((⟨#[116,111,116,97,108]⟩:ByteArray)) (Ex.mk 26 0 ((⟨#[98,111,100,121,46,105,116,101,109,115,91,42,93,46,113,116,121]⟩:ByteArray)) ([]) ([]))) (by first | rfl | (simp +decide only [go_sem,Nat.reduceAdd,Vl.cs_mks,Ty.cs_mks,List.map_nil,a];done) | (simp +decide only [go_sem,Nat.reduceAdd,Vl.cs,Ty.cs,Vl.cs_mks,Ty.cs_mks,List.map_nil,a];done)) ?_ | exact cl
 rw [Ap];simp +decide only [go_sem,Nat.reduceAdd,Vl.cs_mks,Ty.cs_mks,List.map_nil,a]
 (repeat' apply Ae)<;>first | refine C _ _ ?_ | exact cl
 clear C
 apply An;intro K16 H
 refine Ym (B.length+1) 6 (by first | rfl | (simp only [FX,Ey];rfl) | (simp +decide only [go_sem,Nat.reduceAdd,Vl.cs_mks,Ty.cs_mks,List.map_nil,a])) (by first | rfl | (simp only [Xn,List.length_set];rfl) | (simp only [List.length_append,List.length_cons,List.length_nil,Nat.zero_add];rfl)) t true (.inl rfl) (by decide) ((KN (f:=Cd) (sz:=11) (fun _=>by simp +decide only [go_sem]) _)) (ZfP (f:=Cd) 11 (fun _=>rfl) (fun _=>by simp +decide only [go_sem]) _) (fun ah t=>?_)
 simp +decide only [go_sem,Nat.reduceAdd,List.set_cons_zero,List.set_cons_succ]
 obtain ⟨y,V,h⟩:=bind_some h
 apply Ax 2 [2,5,6]
 rw [Ap];simp +decide only [go_sem,Nat.reduceAdd,Vl.cs_mks,Ty.cs_mks,List.map_nil,a]
 (repeat' apply Ae)<;>first | refine Aw _ (Qj w0 hE hM hP hT n _ _ _ ([BN ((⟨#[105,100]⟩:ByteArray)) (BJ ((⟨#[98,111,100,121,46,105,100]⟩:ByteArray))),BN ((⟨#[116,111,116,97,108]⟩:ByteArray)) (Ex.mk 26 0 ((⟨#[98,111,100,121,46,105,116,101,109,115,91,42,93,46,113,116,121]⟩:ByteArray)) ([]) ([]))]) (Ty.mk v.kind v.min v.max v.scale v.words v.elem (v.fields++[(3,(⟨#[105,116,101,109,115]⟩:ByteArray),1,Ty.mk 8 0 9 0 ([]) ([w]) ([]),[])])) ((⟨#[98,111,100,121]⟩:ByteArray)) _ V) (by first | rfl | (simp +decide only [go_sem,Nat.reduceAdd,Vl.cs_mks,Ty.cs_mks,List.map_nil,a];done) | (simp +decide only [go_sem,Nat.reduceAdd,Vl.cs,Ty.cs,Vl.cs_mks,Ty.cs_mks,List.map_nil,a];done)) ?_ | exact cl
 rw [Ap];simp +decide only [go_sem,Nat.reduceAdd,Vl.cs_mks,Ty.cs_mks,List.map_nil,a]
 (repeat' apply Ae)<;>first | refine H _ _ ?_ | exact cl
 clear H
 apply An;intro K19 J
 apply An;intro K20 q
 rcases Bool.eq_false_or_eq_true ((!(decide (y.2=0)))||(!(decide ((y.1.length:Int)=2)))) with hf21 | hf21
 ·replace h:=A7 h hf21
  apply Ax 1 [2,57]
  rw [Ap];simp +decide only [go_sem,Nat.reduceAdd,Vl.cs_mks,Ty.cs_mks,List.map_nil,a,hf21]
  (repeat' apply Ae)<;>first | refine q _ _ ?_ | exact cl
  clear q
  refine A4 true ev (by simp +decide only [go_sem,Nat.reduceAdd,Vl.cs_mks,Ty.cs_mks,List.map_nil,a,hf21]) (fun hb22=>?_) (fun hb22=>by cases hb22)
  apply An;intro K23 K
  apply Ax 1 [0]
  rw [Ap];simp +decide only [go_sem,Nat.reduceAdd,Vl.cs_mks,Ty.cs_mks,List.map_nil,a,hf21]
  (repeat' apply Ae)<;>first | refine K _ _ ?_ | exact cl
  clear K
  apply A1;simp +decide only [go_sem,Nat.reduceAdd,Vl.cs_mks,Ty.cs_mks,List.map_nil,a,hf21]
  have hgt:=Option.some.inj h;subst hgt
  first | refine C5 j rfl t.pre ev ⟨?_,rfl⟩ | refine EP j rfl t.pre ev ⟨?_,rfl⟩
  first | rfl | (simp +decide only [go_sem,Nat.reduceAdd,Vl.cs_mks,Ty.cs_mks,List.map_nil,a,hf21];done) | (simp +decide only [go_sem,Nat.reduceAdd,Vl.cs,Ty.cs,Vl.cs_mks,Ty.cs_mks,List.map_nil,a,hf21];done)
 ·replace h:=A8 h hf21
  obtain ⟨aw,ay,aq,b,h⟩:=ix CB h
  have c:(y.1.map CB).getD 0 .junk=_:=b
  rcases Bool.eq_false_or_eq_true (!(Gn aw ((⟨#[97,109,111,117,110,116]⟩:ByteArray)))) with hf25 | hf25
  ·replace h:=A7 h hf25
   apply Ax 1 [2,57]
   rw [Ap];simp +decide only [go_sem,Nat.reduceAdd,Vl.cs_mks,Ty.cs_mks,List.map_nil,a,hf21,b,c,hf25]
   (repeat' apply Ae)<;>first | refine q _ _ ?_ | exact cl
   clear q
   refine A4 true ev (by simp +decide only [go_sem,Nat.reduceAdd,Vl.cs_mks,Ty.cs_mks,List.map_nil,a,hf21,b,c,hf25]) (fun hb26=>?_) (fun hb26=>by cases hb26)
   apply An;intro K27 N
   apply Ax 1 [0]
   rw [Ap];simp +decide only [go_sem,Nat.reduceAdd,Vl.cs_mks,Ty.cs_mks,List.map_nil,a,hf21,b,c,hf25]
   (repeat' apply Ae)<;>first | refine N _ _ ?_ | exact cl
   clear N
   apply A1;simp +decide only [go_sem,Nat.reduceAdd,Vl.cs_mks,Ty.cs_mks,List.map_nil,a,hf21,b,c,hf25]
   have hgt:=Option.some.inj h;subst hgt
   first | refine C5 j rfl t.pre ev ⟨?_,rfl⟩ | refine EP j rfl t.pre ev ⟨?_,rfl⟩
   first | rfl | (simp +decide only [go_sem,Nat.reduceAdd,Vl.cs_mks,Ty.cs_mks,List.map_nil,a,hf21,b,c,hf25];done) | (simp +decide only [go_sem,Nat.reduceAdd,Vl.cs,Ty.cs,Vl.cs_mks,Ty.cs_mks,List.map_nil,a,hf21,b,c,hf25];done)
  ·replace h:=A8 h hf25
   obtain ⟨ax,ap,aj,d,h⟩:=ix CB h
   have e:(y.1.map CB).getD 1 .junk=_:=d
   apply Ax 1 [2,57]
   rw [Ap];simp +decide only [go_sem,Nat.reduceAdd,Vl.cs_mks,Ty.cs_mks,List.map_nil,a,hf21,b,c,hf25,d,e]
   (repeat' apply Ae)<;>first | refine q _ _ ?_ | exact cl
   clear q
   refine A4 (!(Gn ax ((⟨#[105,116,101,109,115,91,42,93,46,115,107,117]⟩:ByteArray)))) ev (by first | (simp +decide only [go_sem,Nat.reduceAdd,Vl.cs_mks,Ty.cs_mks,List.map_nil,a,hf21,b,c,hf25,d,e];done) | (simp +decide only [go_sem,Nat.reduceAdd,Vl.cs_mks,Ty.cs_mks,List.map_nil,a,hf21,b,c,hf25,d,e];rfl)) (fun g=>?_) (fun g=>?_)
   ·replace h:=A7 h g
    apply An;intro K30 F
    apply Ax 1 [0]
    rw [Ap];simp +decide only [go_sem,Nat.reduceAdd,Vl.cs_mks,Ty.cs_mks,List.map_nil,a,hf21,b,c,hf25,d,e,g]
    (repeat' apply Ae)<;>first | refine F _ _ ?_ | exact cl
    clear F
    apply A1;simp +decide only [go_sem,Nat.reduceAdd,Vl.cs_mks,Ty.cs_mks,List.map_nil,a,hf21,b,c,hf25,d,e,g]
    have hgt:=Option.some.inj h;subst hgt
    first | refine C5 j rfl t.pre ev ⟨?_,rfl⟩ | refine EP j rfl t.pre ev ⟨?_,rfl⟩
    first | rfl | (simp +decide only [go_sem,Nat.reduceAdd,Vl.cs_mks,Ty.cs_mks,List.map_nil,a,hf21,b,c,hf25,d,e,g];done) | (simp +decide only [go_sem,Nat.reduceAdd,Vl.cs,Ty.cs,Vl.cs_mks,Ty.cs_mks,List.map_nil,a,hf21,b,c,hf25,d,e,g];done)
   replace h:=A8 h g
   refine sk [2] hs J ?_
   clear J
   apply An;intro K31 D
   apply Ax 4 [2,7]
   rw [Ap];simp +decide only [go_sem,Nat.reduceAdd,Vl.cs_mks,Ty.cs_mks,List.map_nil,a,hf21,b,c,hf25,d,e,g]
   (repeat' apply Ae)<;>first | refine Aw _ (K0 w0 _ _ _ ((⟨#[98,111,100,121,46,97]⟩:ByteArray))) (by first | rfl | (simp +decide only [go_sem,Nat.reduceAdd,Vl.cs_mks,Ty.cs_mks,List.map_nil,a,hf21,b,c,hf25,d,e,g];done) | (simp +decide only [go_sem,Nat.reduceAdd,Vl.cs,Ty.cs,Vl.cs_mks,Ty.cs_mks,List.map_nil,a,hf21,b,c,hf25,d,e,g];done)) ?_ | exact cl
   rw [Ap];simp +decide only [go_sem,Nat.reduceAdd,Vl.cs_mks,Ty.cs_mks,List.map_nil,a,hf21,b,c,hf25,d,e,g]
   (repeat' apply Ae)<;>first | refine Aw _ (K0 w0 _ _ _ ((⟨#[98,111,100,121,46,98]⟩:ByteArray))) (by first | rfl | (simp +decide only [go_sem,Nat.reduceAdd,Vl.cs_mks,Ty.cs_mks,List.map_nil,a,hf21,b,c,hf25,d,e,g];done) | (simp +decide only [go_sem,Nat.reduceAdd,Vl.cs,Ty.cs,Vl.cs_mks,Ty.cs_mks,List.map_nil,a,hf21,b,c,hf25,d,e,g];done)) ?_ | exact cl
   rw [Ap];simp +decide only [go_sem,Nat.reduceAdd,Vl.cs_mks,Ty.cs_mks,List.map_nil,a,hf21,b,c,hf25,d,e,g]
   (repeat' apply Ae)<;>first | refine Aw _ (J9 w0 _ _ _ ((⟨#[110]⟩:ByteArray)) (Ex.mk 12 0 (⟨#[]⟩:ByteArray) ([]) ([BJ ((⟨#[98,111,100,121,46,97]⟩:ByteArray)),BJ ((⟨#[98,111,100,121,46,98]⟩:ByteArray))]))) (by first | rfl | (simp +decide only [go_sem,Nat.reduceAdd,Vl.cs_mks,Ty.cs_mks,List.map_nil,a,hf21,b,c,hf25,d,e,g];done) | (simp +decide only [go_sem,Nat.reduceAdd,Vl.cs,Ty.cs,Vl.cs_mks,Ty.cs_mks,List.map_nil,a,hf21,b,c,hf25,d,e,g];done)) ?_ | exact cl
   rw [Ap];simp +decide only [go_sem,Nat.reduceAdd,Vl.cs_mks,Ty.cs_mks,List.map_nil,a,hf21,b,c,hf25,d,e,g]
   (repeat' apply Ae)<;>first | refine D _ _ ?_ | exact cl
   clear D
   apply An;intro K32 G
   apply Ax 3 [2,7,8]
   rw [Ap];simp +decide only [go_sem,Nat.reduceAdd,Vl.cs_mks,Ty.cs_mks,List.map_nil,a,hf21,b,c,hf25,d,e,g]
   (repeat' apply Ae)<;>first | refine Aw _ (K0 w0 _ _ _ ((⟨#[98,111,100,121,46,110]⟩:ByteArray))) (by first | rfl | (simp +decide only [go_sem,Nat.reduceAdd,Vl.cs_mks,Ty.cs_mks,List.map_nil,a,hf21,b,c,hf25,d,e,g];done) | (simp +decide only [go_sem,Nat.reduceAdd,Vl.cs,Ty.cs,Vl.cs_mks,Ty.cs_mks,List.map_nil,a,hf21,b,c,hf25,d,e,g];done)) ?_ | exact cl
   rw [Ap];simp +decide only [go_sem,Nat.reduceAdd,Vl.cs_mks,Ty.cs_mks,List.map_nil,a,hf21,b,c,hf25,d,e,g]
   (repeat' apply Ae)<;>first | refine Aw _ (J9 w0 _ _ _ ((⟨#[116,119,105,99,101]⟩:ByteArray)) (Ex.mk 14 0 (⟨#[]⟩:ByteArray) ([]) ([BJ ((⟨#[98,111,100,121,46,110]⟩:ByteArray)),Ex.mk 1 0 (⟨#[]⟩:ByteArray) ([Vl.mk 2 2 0 (⟨#[]⟩:ByteArray) ([]) ([])]) ([])]))) (by first | rfl | (simp +decide only [go_sem,Nat.reduceAdd,Vl.cs_mks,Ty.cs_mks,List.map_nil,a,hf21,b,c,hf25,d,e,g];done) | (simp +decide only [go_sem,Nat.reduceAdd,Vl.cs,Ty.cs,Vl.cs_mks,Ty.cs_mks,List.map_nil,a,hf21,b,c,hf25,d,e,g];done)) ?_ | exact cl
   rw [Ap];simp +decide only [go_sem,Nat.reduceAdd,Vl.cs_mks,Ty.cs_mks,List.map_nil,a,hf21,b,c,hf25,d,e,g]
   (repeat' apply Ae)<;>first | refine G _ _ ?_ | exact cl
   clear G
   apply An;intro K33 E
   obtain ⟨ak,Y,h⟩:=bind_some h
   obtain ⟨O,ag,h⟩:=bind_some h
   apply J2 PH [9,10] [9,10] kr (fun s=>∃ (X:Ao) (rows:Av),s=⟨B++([[Am 2,Am 0,Am 99,Am 0,.list ([]) .none,.list ([]) .none,.list ([]) .none],[Am v.kind,Am v.min,Am v.max,Am v.scale,.list (v.words.map CB) .none,.list (v.elem.map J1) .none,.list ((v.fields++[(3,(⟨#[105,116,101,109,115]⟩:ByteArray),1,Ty.mk 8 0 9 0 ([]) ([w]) ([]),[])]).map Cd) .none],[.list (([BN ((⟨#[105,100]⟩:ByteArray)) (BJ ((⟨#[98,111,100,121,46,105,100]⟩:ByteArray))),BN ((⟨#[116,111,116,97,108]⟩:ByteArray)) (Ex.mk 26 0 ((⟨#[98,111,100,121,46,105,116,101,109,115,91,42,93,46,113,116,121]⟩:ByteArray)) ([]) ([]))]).map A5) .full],[.list (([BN ((⟨#[110]⟩:ByteArray)) (Ex.mk 12 0 (⟨#[]⟩:ByteArray) ([]) ([BJ ((⟨#[98,111,100,121,46,97]⟩:ByteArray)),BJ ((⟨#[98,111,100,121,46,98]⟩:ByteArray))]))]).map A5) .full],[.list (([BN ((⟨#[116,119,105,99,101]⟩:ByteArray)) (Ex.mk 14 0 (⟨#[]⟩:ByteArray) ([]) ([BJ ((⟨#[98,111,100,121,46,110]⟩:ByteArray)),Ex.mk 1 0 (⟨#[]⟩:ByteArray) ([Vl.mk 2 2 0 (⟨#[]⟩:ByteArray) ([]) ([])]) ([])]))]).map A5) .full]]++X),rows,L⟩) 3 (B.length+5)
   ·simp +decide only [go_sem,Nat.reduceAdd]
   ·rintro s ⟨X,rows,rfl⟩
    refine ⟨3,?_⟩
    rw [Ap];simp +decide only [go_sem,Nat.reduceAdd,Dk,Vl.cs_mks,Ty.cs_mks,List.map_nil,a,hf21,b,c,hf25,d,e,g]
    (repeat' apply Ae)<;>first | refine Aw _ (NQ w0 n _ _ _ ([(⟨#[110]⟩:ByteArray)]) B.length (Ty.mk 2 0 99 0 ([]) ([]) ([])) (by simp +decide only [go_sem,Nat.reduceAdd,Vl.cs_mks,Ty.cs_mks,List.map_nil,a,hf21,b,c,hf25,d,e,g]) _ Y) (by first | rfl | (simp +decide only [go_sem,Nat.reduceAdd,Vl.cs_mks,Ty.cs_mks,List.map_nil,a,hf21,b,c,hf25,d,e,g];done) | (simp +decide only [go_sem,Nat.reduceAdd,Vl.cs,Ty.cs,Vl.cs_mks,Ty.cs_mks,List.map_nil,a,hf21,b,c,hf25,d,e,g];done)) ?_ | exact cl
    rw [Ap];simp +decide only [go_sem,Nat.reduceAdd,Vl.cs_mks,Ty.cs_mks,List.map_nil,a,hf21,b,c,hf25,d,e,g]
    (repeat' apply Ae)<;>first | refine Aw _ (RN w0 hB hE hM hP hT n _ _ _ ([BN ((⟨#[110]⟩:ByteArray)) (Ex.mk 12 0 (⟨#[]⟩:ByteArray) ([]) ([BJ ((⟨#[98,111,100,121,46,97]⟩:ByteArray)),BJ ((⟨#[98,111,100,121,46,98]⟩:ByteArray))]))]) ([BN ((⟨#[116,119,105,99,101]⟩:ByteArray)) (Ex.mk 14 0 (⟨#[]⟩:ByteArray) ([]) ([BJ ((⟨#[98,111,100,121,46,110]⟩:ByteArray)),Ex.mk 1 0 (⟨#[]⟩:ByteArray) ([Vl.mk 2 2 0 (⟨#[]⟩:ByteArray) ([]) ([])]) ([])]))]) ak _ ag) (by first | rfl | (simp +decide only [go_sem,Nat.reduceAdd,Vl.cs_mks,Ty.cs_mks,List.map_nil,a,hf21,b,c,hf25,d,e,g];done) | (simp +decide only [go_sem,Nat.reduceAdd,Vl.cs,Ty.cs,Vl.cs_mks,Ty.cs_mks,List.map_nil,a,hf21,b,c,hf25,d,e,g];done)) ?_ | exact cl
    rw [Ap];simp +decide only [go_sem,Nat.reduceAdd,Vl.cs_mks,Ty.cs_mks,List.map_nil,a,hf21,b,c,hf25,d,e,g]
    (repeat' apply Ae)<;>first | rfl | exact cl
   ·refine Good.mk [9] kr ⟨[],_,by first | rfl | (simp only [List.append_nil,List.nil_append,List.map_append,List.map_cons,List.map_nil,Dp,EO,EQ,Ty.cs_mks,List.cons_append];first | done | rfl)⟩ ?_ ?_
    ·intro h;exact absurd h (by decide)
    ·intro i hi;simp only [List.mem_cons,List.not_mem_nil,or_false] at hi
     subst hi
     ·apply Ec rfl rfl ev
      ·simp +decide only [go_sem,Nat.reduceAdd,E7,Vl.cs_mks,Ty.cs_mks,List.map_nil,a,hf21,b,c,hf25,d,e,g]
       (repeat' apply Ae)<;>first | rfl | exact cl
      ·simp +decide only [go_sem,Nat.reduceAdd,Vl.cs_mks,Ty.cs_mks,List.map_nil,a,hf21,b,c,hf25,d,e,g]
       refine Good.mk [10] kr ⟨_,_,by first | rfl | (simp only [List.append_nil,List.nil_append,List.map_append,List.map_cons,List.map_nil,Dp,EO,EQ,Ty.cs_mks,List.cons_append];first | done | rfl)⟩ ?_ ?_
       ·intro h;exact absurd h (by decide)
       ·intro i hi;simp only [List.mem_cons,List.not_mem_nil,or_false] at hi
        subst hi
        ·apply Ec rfl rfl ev
         ·simp +decide only [go_sem,Nat.reduceAdd,E7,Vl.cs_mks,Ty.cs_mks,List.map_nil,a,hf21,b,c,hf25,d,e,g]
          (repeat' apply Ae)<;>first | rfl | exact cl
         ·simp +decide only [go_sem,Nat.reduceAdd,Vl.cs_mks,Ty.cs_mks,List.map_nil,a,hf21,b,c,hf25,d,e,g]
          refine Good.mk [] kr ⟨_,_,by first | rfl | (simp only [List.append_nil,List.nil_append,List.map_append,List.map_cons,List.map_nil,Dp,EO,EQ,Ty.cs_mks,List.cons_append];first | done | rfl)⟩ ?_ ?_
          ·intro _;apply QF [9,10];first | (simp +decide only [go_sem,Nat.reduceAdd,Vl.cs_mks,Ty.cs_mks,List.map_nil,a,hf21,b,c,hf25,d,e,g];done) | (simp +decide only [go_sem,Nat.reduceAdd,Vl.cs_mks,Ty.cs_mks,List.map_nil,a,hf21,b,c,hf25,d,e,g];rfl)
          ·intro i hi;cases hi
   simp +decide only [go_sem,Nat.reduceAdd,Vl.cs_mks,Ty.cs_mks,List.map_nil,a,hf21,b,c,hf25,d,e,g]
   (repeat' apply Ae)<;>first | refine E _ _ ?_ | exact cl
   clear E
   apply An;intro K36 o
   rcases Bool.eq_false_or_eq_true ((decide (O.2=0))&&(decide ((O.1.length:Int)=1))) with hf37 | hf37
   ·replace h:=A7 h hf37
    obtain ⟨U,au,ar,k,h⟩:=ix A5 h
    have l:(O.1.map A5).getD 0 .junk=_:=k
    rcases Bool.eq_false_or_eq_true (Gn U.1 ((⟨#[116,119,105,99,101]⟩:ByteArray))) with hf39 | hf39
    ·replace h:=A7 h hf39
     rcases Bool.eq_false_or_eq_true (decide ((U.2.args.length:Int)=2)) with hf40 | hf40
     ·replace h:=A7 h hf40
      obtain ⟨a1,am,ao,p,h⟩:=ix O5 h
      have u:(U.2.args.map O5).getD 0 .junk=_:=p
      apply Ax 1 [0]
      rw [Ap];simp +decide only [go_sem,Nat.reduceAdd,Vl.cs_mks,Ty.cs_mks,List.map_nil,a,hf21,b,c,hf25,d,e,g,hf37,k,l,hf39,hf40,p,u,List.append_eq,List.cons_append,List.nil_append]
      (repeat' apply Ae)<;>first | refine o _ _ ?_ | exact cl
      clear o
      apply A1;simp +decide only [go_sem,Nat.reduceAdd,Vl.cs_mks,Ty.cs_mks,List.map_nil,a,hf21,b,c,hf25,d,e,g,hf37,k,l,hf39,hf40,p,u]
      have hgt:=Option.some.inj h;subst hgt
      first | refine C5 j rfl t.pre ev ⟨?_,rfl⟩ | refine EP j rfl t.pre ev ⟨?_,rfl⟩
      first | rfl | (simp +decide only [go_sem,Nat.reduceAdd,Vl.cs_mks,Ty.cs_mks,List.map_nil,a,hf21,b,c,hf25,d,e,g,hf37,k,l,hf39,hf40,p,u];done) | (simp +decide only [go_sem,Nat.reduceAdd,Vl.cs,Ty.cs,Vl.cs_mks,Ty.cs_mks,List.map_nil,a,hf21,b,c,hf25,d,e,g,hf37,k,l,hf39,hf40,p,u];done)
     ·replace h:=A8 h hf40
      apply Ax 1 [0]
      rw [Ap];simp +decide only [go_sem,Nat.reduceAdd,Vl.cs_mks,Ty.cs_mks,List.map_nil,a,hf21,b,c,hf25,d,e,g,hf37,k,l,hf39,hf40,List.append_eq,List.cons_append,List.nil_append]
      (repeat' apply Ae)<;>first | refine o _ _ ?_ | exact cl
      clear o
      apply A1;simp +decide only [go_sem,Nat.reduceAdd,Vl.cs_mks,Ty.cs_mks,List.map_nil,a,hf21,b,c,hf25,d,e,g,hf37,k,l,hf39,hf40]
      have hgt:=Option.some.inj h;subst hgt
      first | refine C5 j rfl t.pre ev ⟨?_,rfl⟩ | refine EP j rfl t.pre ev ⟨?_,rfl⟩
      first | rfl | (simp +decide only [go_sem,Nat.reduceAdd,Vl.cs_mks,Ty.cs_mks,List.map_nil,a,hf21,b,c,hf25,d,e,g,hf37,k,l,hf39,hf40];done) | (simp +decide only [go_sem,Nat.reduceAdd,Vl.cs,Ty.cs,Vl.cs_mks,Ty.cs_mks,List.map_nil,a,hf21,b,c,hf25,d,e,g,hf37,k,l,hf39,hf40];done)
    ·replace h:=A8 h hf39
     apply Ax 1 [0]
     rw [Ap];simp +decide only [go_sem,Nat.reduceAdd,Vl.cs_mks,Ty.cs_mks,List.map_nil,a,hf21,b,c,hf25,d,e,g,hf37,k,l,hf39,List.append_eq,List.cons_append,List.nil_append]
     (repeat' apply Ae)<;>first | refine o _ _ ?_ | exact cl
     clear o
     apply A1;simp +decide only [go_sem,Nat.reduceAdd,Vl.cs_mks,Ty.cs_mks,List.map_nil,a,hf21,b,c,hf25,d,e,g,hf37,k,l,hf39]
     have hgt:=Option.some.inj h;subst hgt
     first | refine C5 j rfl t.pre ev ⟨?_,rfl⟩ | refine EP j rfl t.pre ev ⟨?_,rfl⟩
     first | rfl | (simp +decide only [go_sem,Nat.reduceAdd,Vl.cs_mks,Ty.cs_mks,List.map_nil,a,hf21,b,c,hf25,d,e,g,hf37,k,l,hf39];done) | (simp +decide only [go_sem,Nat.reduceAdd,Vl.cs,Ty.cs,Vl.cs_mks,Ty.cs_mks,List.map_nil,a,hf21,b,c,hf25,d,e,g,hf37,k,l,hf39];done)
   ·replace h:=A8 h hf37
    apply Ax 1 [0]
    rw [Ap];simp +decide only [go_sem,Nat.reduceAdd,Vl.cs_mks,Ty.cs_mks,List.map_nil,a,hf21,b,c,hf25,d,e,g,hf37,List.append_eq,List.cons_append,List.nil_append]
    (repeat' apply Ae)<;>first | refine o _ _ ?_ | exact cl
    clear o
    apply A1;simp +decide only [go_sem,Nat.reduceAdd,Vl.cs_mks,Ty.cs_mks,List.map_nil,a,hf21,b,c,hf25,d,e,g,hf37]
    have hgt:=Option.some.inj h;subst hgt
    first | refine C5 j rfl t.pre ev ⟨?_,rfl⟩ | refine EP j rfl t.pre ev ⟨?_,rfl⟩
    first | rfl | (simp +decide only [go_sem,Nat.reduceAdd,Vl.cs_mks,Ty.cs_mks,List.map_nil,a,hf21,b,c,hf25,d,e,g,hf37];done) | (simp +decide only [go_sem,Nat.reduceAdd,Vl.cs,Ty.cs,Vl.cs_mks,Ty.cs_mks,List.map_nil,a,hf21,b,c,hf25,d,e,g,hf37];done)
theorem Zc3 (m:Nat):Jf (m+60)=some true:=by kernel_rfl
theorem Zbi (n:Nat) (h:60≤n):Jf n=some true:=by
 obtain ⟨m,rfl⟩:∃ m,n=m+60:=⟨n-60,by omega⟩
 exact Zc3 m
def Lu (n:Nat) (h:List (ByteArray × Ex)) (q:Ty) (g:ByteArray):Option ((List ByteArray) × Int) :=
 (FK n h q g).bind fun b =>
 some ((b.1,b.2.2))
theorem W5 (w0:World) (hE:Jl w0) (hM:Jh w0) (hP:Pow10 w0) (hT:Lib.Utf8Tabs 2 3 w0) (n:Nat) (B:Ao) (Rw:Av) (L:As) (a0:List (ByteArray × Ex)) (a1:Ty) (a2:ByteArray) (r:(List ByteArray) × Int) (h:Lu n a0 a1 a2=some r) :
  ACalls Tryz.prog w0 22 [.agg ([.list (a0.map A5) .none]),.agg (a1.cs),.val (.string a2)] ⟨B,Rw,L⟩ fun x st=>x = .tup [.list (r.1.map CB) .none,Am r.2]∧st=⟨B,Rw,L⟩:=by
 rw [Lu] at h
 refine hd [.tmp 6,.tmp 7] Tryz.func22 Tryz.ntmps22 fun M0 W0 i d e a j f hs=>?_
 simp only [AA]
 refine rg [2,3,4] hs ?_
 obtain ⟨g,c,h⟩:=bind_some h
 refine rc 2 [8,10] hs ?_;intro K2 b
 refine Aw _ (NA w0 hE hM hP hT n _ _ _ a0 a1 a2 _ c) (hv hs) ?_
 refine ne hs b ?_
 clear b
 refine rg [6,7] hs ?_
 exact rt h hs a f
def HZ (n:Nat) (a0:List (ByteArray × Ex)) (a1:Ty) (b:ByteArray):Option Bool :=
 (Le n a0).bind fun z =>
 (Ja n a1).bind fun y4 =>
 if 0≤0∧0≤(if 60<(b.size:Int) then 60 else (b.size:Int))∧(if 60<(b.size:Int) then 60 else (b.size:Int))≤(b.size:Int) then
  (Jm n z y4 (b.extract 0 ((if 60<(b.size:Int) then 60 else (b.size:Int))).toNat)).bind fun y7 =>
  (Lu n z y4 (b.extract 0 ((if 60<(b.size:Int) then 60 else (b.size:Int))).toNat)).bind fun y9 =>
  (Jj n z y4 (b.extract 0 ((if 60<(b.size:Int) then 60 else (b.size:Int))).toNat)).bind fun g =>
  (Jf n ).bind fun h =>
  if (h&&(decide (y7.2=g.2.2)))&&(decide (y9.2=g.2.2)) then
   (IR n y7.1 g.1).bind fun y =>
   if y then
    (IR n y9.1 g.2.1).bind fun q =>
    some (q)
   else
    some (false)
  else
   some (false)
 else none
theorem RY (w0:World) (hB:Qk w0) (hE:Jl w0) (hM:Jh w0) (hP:Pow10 w0) (hT:Lib.Utf8Tabs 2 3 w0) (n:Nat) (B:Ao) (Rw:Av) (L:As) (a0:List (ByteArray × Ex)) (a1:Ty) (a2:ByteArray) (r:Bool) (h:HZ n a0 a1 a2=some r) :
  ACalls Tryz.prog w0 4 [.agg ([.list (a0.map A5) .none]),.agg (a1.cs),.val (.string a2)] ⟨B,Rw,L⟩ fun x st=>x = .val (.bool r)∧st=⟨B,Rw,L⟩:=by
 rw [HZ] at h
 refine hd [.tmp 6] Tryz.func4 Tryz.ntmps4 fun M0 W0 q g f b O w hs=>?_
 simp only [AA]
 refine rg [2,3,4] hs ?_
 apply An;intro K2 l
 obtain ⟨t,i,h⟩:=bind_some h
 obtain ⟨C,o,h⟩:=bind_some h
 obtain ⟨N,h⟩:=Au h
 apply TJ PH [9,10,11] [0,2] [2,3,4] kr (fun s=>∃ (X:Ao) (rows:Av) (E:List AV) (F:List AV),s=⟨B++([E,F]++X),rows,L⟩) 4 (B.length+2)
 ·simp +decide only [go_sem,Nat.reduceAdd]
 ·refine ⟨3,?_⟩
  rw [Ap];simp +decide only [go_sem,Nat.reduceAdd,Dk]
  (repeat' apply Ae)<;>first | refine Aw _ (PK w0 n _ _ _ a0 _ i) (hv hs) ?_ | exact cl
  rw [Ap];simp +decide only [go_sem,Nat.reduceAdd]
  (repeat' apply Ae)<;>first | refine Aw _ (PL w0 n _ _ _ a1 _ o) (hv hs) ?_ | exact cl
  rw [Ap];simp +decide only [go_sem,Nat.reduceAdd]
  (repeat' apply Ae)<;>first | rfl | exact cl
 ·rintro s ⟨X,rows,E,F,rfl⟩
  refine ⟨3,?_⟩
  rw [Ap];simp +decide only [go_sem,Nat.reduceAdd,Dk,List.append_eq,List.cons_append,List.nil_append]
  (repeat' apply Ae)<;>first | refine Aw _ (PK w0 n _ _ _ a0 _ i) (hv hs) ?_ | exact cl
  rw [Ap];simp +decide only [go_sem,Nat.reduceAdd]
  (repeat' apply Ae)<;>first | refine Aw _ (PL w0 n _ _ _ a1 _ o) (hv hs) ?_ | exact cl
  rw [Ap];simp +decide only [go_sem,Nat.reduceAdd]
  (repeat' apply Ae)<;>first | rfl | ((repeat (first | exact .nil | refine .cons (ef hs) ?_));done) | exact cl
 ·exact gd (tg (a:=(9,10,11,[2,3,4]))) hs
 simp +decide only [go_sem,Nat.reduceAdd]
 (repeat' apply Ae)<;>first | refine l _ _ ?_ | exact cl
 clear l
 obtain ⟨H,z,h⟩:=bind_some h
 refine rc 2 [2,3,4,7,8] hs ?_;intro K6 p
 refine Aw _ (Qj w0 hE hM hP hT n _ _ _ t C (a2.extract 0 ((if 60<(a2.size:Int) then 60 else (a2.size:Int))).toNat) _ z) (hv hs) ?_
 refine ne hs p ?_
 clear p
 obtain ⟨J,u,h⟩:=bind_some h
 refine rc 2 [2,3,4,7,8,9,10] hs ?_;intro K8 m
 refine Aw _ (W5 w0 hE hM hP hT n _ _ _ t C (a2.extract 0 ((if 60<(a2.size:Int) then 60 else (a2.size:Int))).toNat) _ u) (hv hs) ?_
 refine ne hs m ?_
 clear m
 obtain ⟨k,j,h⟩:=bind_some h
 refine rc 2 [7,8,9,10,11,12,13] hs ?_;intro K10 e
 refine Aw _ (W3 w0 hE hM hP hT n _ _ _ t C (a2.extract 0 ((if 60<(a2.size:Int) then 60 else (a2.size:Int))).toNat) _ j) (hv hs) ?_
 refine ne hs e ?_
 clear e
 apply An;intro K12 c
 obtain ⟨v,d,h⟩:=bind_some h
 rcases Bool.eq_false_or_eq_true ((v&&(decide (H.2=k.2.2)))&&(decide (J.2=k.2.2))) with hf14 | hf14
 ·replace h:=A7 h hf14
  obtain ⟨y,D,h⟩:=bind_some h
  rcases Bool.eq_false_or_eq_true (y) with hf16 | hf16
  ·replace h:=A7 h hf16
   obtain ⟨K,G,h⟩:=bind_some h
   have hs:=Ae hf14 hs
   have hs:=Ae hf16 hs
   refine rk 4 [6] hs ?_
   refine Aw _ (ME w0 hB hE hM hP hT n _ _ _  _ d) (hv hs) ?_
   exact go (tg (a:=((),()))) h hs q g f b w (q1 (RF w0 n)) (q1 c)
  ·replace h:=A8 h hf16
   have hs:=Ae hf14 hs
   have hs:=Ae hf16 hs
   refine rk 4 [6] hs ?_
   refine Aw _ (ME w0 hB hE hM hP hT n _ _ _  _ d) (hv hs) ?_
   exact go (tg (a:=((),()))) h hs q g f b w (q1 (RF w0 n)) (q1 c)
 ·replace h:=A8 h hf14
  have hs:=Ae hf14 hs
  refine rk 4 [6] hs ?_
  refine Aw _ (ME w0 hB hE hM hP hT n _ _ _  _ d) (hv hs) ?_
  exact go (tg (a:=((),()))) h hs q g f b w trivial (q1 c)
theorem ZhS (n:Nat) (hn:3000000≤n) (m:List (ByteArray × Ex)) (hm:QR m) (t:Ty) (ht:t.small) (s:ByteArray) :
  ∃ (a b:List ByteArray) (e:Int),FK n m t s=some (a,b,e)∧Jj n m t s=some (b,a,e)∧a.length≤1000∧b.length≤1000:=by
 obtain ⟨i,q1⟩:=ZfG n (by omega) m hm
 obtain ⟨c,f,q2,q3,g⟩:=Zq n hn t ht
 obtain ⟨o,q,hs⟩:=Zhn n (by omega) m hm
 obtain ⟨v,ok⟩:=SZ n (by omega) s
 have j:=ok.1
 have l:=g.1
 have r:=ZD n t f q3 (by omega) (by omega)
 have ht2:Jr n t=some (if c=0 then (if t.kind=9 then 0 else 11) else c):=by
  rw [Jr,q2,Af]
  by_cases h:c=0
  ·rw [Ah h,Aj (by decide),Ai h]
   by_cases k:t.kind=9
   ·rw [Ah k,Aj (by decide),Ai k]
   ·rw [Ag k,Ai (by decide),Aj k]
  ·rw [Ag h,Ai (by decide),Aj h]
 have hme:EU n t=some (if c=0 then (if t.kind=9 then 0 else 11) else c):=by
  rw [EU,q2,Af]
  by_cases h:c=0
  ·by_cases k:t.kind=9
   ·rw [Ah h,Ah k,Aj (by decide),Ai h,Ai k,DD,h]
   ·rw [Ah h,Ag k,Ai (by decide),Ai h,Aj k,DD]
  ·rw [Ag h,Bool.false_and,Aj (by decide),Aj h,DD]
 generalize (if c=0 then (if t.kind=9 then (0:Int) else 11) else c)=e2 at ht2 hme
 rw [FK,Jj,q1,Af,Af,hme,Af,ZbM n (by omega),Af,ht2]
 by_cases h1':i=0
 rotate_left
 ·rw [Aj h1',Ag h1']
  exact ⟨[],[],i,rfl,rfl,by simp,by simp⟩
 rw [Ai h1',Ah h1',Aj (show ¬ (!true)=true by decide),Af]
 by_cases h2':e2=0
 rotate_left
 ·rw [Ag h2']
  exact ⟨[],[],e2,rfl,rfl,by simp,by simp⟩
 rw [Ah h2',Aj (by decide),Aj (by decide),v,Af,Af]
 by_cases h3:(XW n s).2=0
 rotate_left
 ·rw [Ag h3]
  exact ⟨[],[],(XW n s).2,rfl,rfl,by simp,by simp⟩
 have w:A3 n (XW n s).1 (fun u=>some (Ef u))=some ((XW n s).1.any fun p => !decide (p.kind=1)):=MW n _ _ (fun p => !decide (p.kind=1)) (fun p _=>rfl) (by omega) (by omega)
 rw [Ah h3,Aj (by decide),Aj (by decide),w,Af,ZbT n _ (by omega) (by omega),Af]
 cases (XW n s).1.any fun p => !decide (p.kind=1) with
 | true=>exact ⟨[],[],22,rfl,rfl,by simp,by simp⟩
 | false =>
  have d:=OM n (by omega) (XW n s) j o hs f g f.length n 0 [] [] (by omega) (by omega) (by simp) (by simp)
  have e:=Qy n (by omega) m (XW n s) j o q hs f g f.length n 0 [] [] (by omega) (by omega) (by simp) (by simp)
  rw [List.drop_zero,List.nil_append,List.nil_append] at d e
  rw [Aj (by decide),Aj (by decide),q,Af,r,q3,Af,Af]
  refine ⟨_,_,_,d,e,?_,?_⟩
  ·rw [List.length_map];exact Nat.le_trans (List.length_filter_le _ _) l
  ·rw [List.length_map];exact Nat.le_trans (List.length_filter_le _ _) l
theorem Z6 (n:Nat) (hn:3000000≤n) (m:List (ByteArray × Ex)) (t:Ty) (s:ByteArray):HZ n m t s=some true:=by
 obtain ⟨f,i,h⟩:=Zch n (by omega) m
 obtain ⟨j,k,c⟩:=Ze9 n (by omega) t
 obtain ⟨a,b,e,g,d,o,l⟩:=ZhS n hn f h j ⟨by have:=c.1;omega,by have:=c.2.1;omega,c.2.2⟩ (s.extract 0 ((if 60<(s.size:Int) then 60 else (s.size:Int))).toNat)
 rw [HZ,i,Af,k,Af,Ai (P0 _ (by decide)),Jm,Lu,g,Af,Af,Af,Af,d,Af,Zbi n (by omega),Af,Ai (by simp),V6 n b (by omega) (by omega),Af,Ai rfl,V6 n a (by omega) (by omega)]
 rfl
end Go.Proofs.YtmcnjijeocmkgaaGreatDoor
