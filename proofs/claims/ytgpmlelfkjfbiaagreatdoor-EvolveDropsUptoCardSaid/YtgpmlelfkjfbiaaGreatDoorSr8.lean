/-
  Part 8 of the proof: rules and walks that the claim's last text uses.
-/
import Derived.Test.YtgpmlelfkjfbiaaGreatDoorSr7
set_option linter.unusedSimpArgs false
set_option linter.unusedVariables false
set_option maxRecDepth 100000
set_option maxHeartbeats 4000000
namespace Go.Proofs.YtgpmlelfkjfbiaaGreatDoor
open Go Go.RowKit Go.Ev
def Zb2 (a b:Ty):Bool:=match NX a.min a.scale b.scale,NX a.max a.scale b.scale with
 | some x,some y=>Oc x b&&Oc y b&&(decide (a.scale≤b.scale)||decide (a.min=a.max))
 | _,_=>false
def YD (a b:Ty):Bool:=decide (b.min≤a.min)&&decide (a.max≤b.max)
def Zbw (a b:Ty):Bool:=if a.words≠[] then a.words.all fun w=>JR w b else if b.words≠[] then decide (a.max=0)&&JR ⟨#[]⟩ b else YD a b
def Me:Nat→Ty→Ty→Bool
 | 0,_,_=>false
 | d+1,a,b =>
  if (a.kind=2∨a.kind=3)∧(b.kind=2∨b.kind=3) then Zb2 a b
  else if a.kind≠b.kind then false
  else if b.kind=1 then true
  else if b.kind=4 then Zbw a b
  else if b.kind=8 then YD a b&&(decide (a.max=0)||(match a.elem,b.elem with | [x],[y]=>Me d x y | _,_=>false))
  else if b.kind=9 then b.fields.all fun g=>match E6 a.fields g.1 with | none => !decide (g.2.2.1=1) | some p=>Me d p.2.2.2.1 g.2.2.2.1 && !(decide (g.2.2.1=1)&&decide (p.2.2.1=2))
  else if b.kind=10 then a.fields.all fun p=>match E6 b.fields p.1 with | none=>false | some g=>Me d p.2.2.2.1 g.2.2.2.1
  else YD a b
theorem Zej {t:Ty} (o:t.Own) (h:t.kind=2∨t.kind=3):(-999999999999999≤t.min∧t.min≤999999999999999)∧(-999999999999999≤t.max∧t.max≤999999999999999):=by
 obtain ⟨_,_,c⟩:=o.bounds (by omega) (by omega)
 have:=Tz o h
 omega
theorem Zh5 (n:Nat) (a b:Ty) (oa:a.Own) (ob:b.Own) (ha:a.kind=2∨a.kind=3) (hb:b.kind=2∨b.kind=3) (hn:200<n):Fq n a b=some (Zb2 a b):=by
 have f:=oa.scale
 have e:=ob.scale
 obtain ⟨c,d⟩:=Zej oa ha
 rw [Fq,PU n _ _ _ c (by omega) (by omega) hn,Ab,PU n _ _ _ d (by omega) (by omega) hn,Ab,Zb2]
 cases NX a.min a.scale b.scale with
 | none=>simp
 | some x =>
  cases NX a.max a.scale b.scale with
  | none=>simp
  | some y=>simp [Oc,Bj,Bool.and_assoc]
def okN (b:Ty):Option Int→Bool
 | some m=>Oc m b
 | none=>false
theorem Zo {o:Option Int} {y:Int × Bool} {b:Ty} (ob:b.Own) (hb:b.kind=2∨b.kind=3) (h:Zhz o y):(y.2&&Bi y.1 b)=okN b o:=by
 have a:=Tz ob hb
 cases o with
 | some m =>
  have h:y=(m,true):=h
  subst h;rfl
 | none =>
  rcases h with h | ⟨h,h2⟩
  ·rw [h];rfl
  ·rw [h,Bool.true_and]
   show Bi y.1 b=false
   rw [Bool.eq_false_iff]
   intro w
   have:Oc y.1 b=true:=w
   rw [XM] at this
   omega
theorem ZfV (n:Nat) (a b:Ty) (oa:a.Own) (ob:b.Own) (ha:a.kind=2∨a.kind=3) (hb:b.kind=2∨b.kind=3) (hn:200<n) :
  ((G9 n a.min (b.scale-a.scale)).bind fun y7=>if BQ (b.scale-a.scale) then (G9 n a.max (b.scale-a.scale)).bind fun y10=>if (decide (b.scale<a.scale) && !decide (a.min=a.max))=true then some false else some (((y7.2&&y10.2)&&Bi y7.1 b)&&Bi y10.1 b) else none)=some (Zb2 a b):=by
 have t:=oa.scale
 have o:=ob.scale
 obtain ⟨d,l⟩:=Zej oa ha
 obtain ⟨y,g,j⟩:=UO n a.min a.scale b.scale d (by omega) (by omega) hn
 obtain ⟨z,i,m⟩:=UO n a.max a.scale b.scale l (by omega) (by omega) hn
 have f:=Zo ob hb j
 have h:=Zo ob hb m
 rw [g,Ab,Ae (by unfold BQ;omega),i,Ab,Zb2]
 have k:(((y.2&&z.2)&&Bi y.1 b)&&Bi z.1 b)=((y.2&&Bi y.1 b)&&(z.2&&Bi z.1 b)):=by
  generalize y.2=p;generalize z.2=q;generalize Bi y.1 b=r;generalize Bi z.1 b=s
  revert p q r s;decide
 rw [k,f,h]
 by_cases c:b.scale<a.scale∧a.min≠a.max
 ·rw [Ae (by rw [Bool.and_eq_true,decide_eq_true_eq,Bool.not_eq_true',decide_eq_false_iff_not];exact c),Ac (show ¬ a.scale≤b.scale by omega),Ac c.2]
  cases NX a.min a.scale b.scale with
  | none=>rfl
  | some x=>cases NX a.max a.scale b.scale<;>simp [okN]
 ·rw [Af (by rw [Bool.and_eq_true,decide_eq_true_eq,Bool.not_eq_true',decide_eq_false_iff_not];exact c)]
  have e:(decide (a.scale≤b.scale)||decide (a.min=a.max))=true:=by
   rw [Bool.or_eq_true,decide_eq_true_eq,decide_eq_true_eq]
   by_cases q:a.min=a.max
   ·exact .inr q
   ·left
    have:¬ b.scale<a.scale:=fun z=>c ⟨z,q⟩
    omega
  rw [e]
  cases NX a.min a.scale b.scale with
  | none=>rfl
  | some x=>cases NX a.max a.scale b.scale<;>simp [okN]
theorem Zfv (n:Nat) (a b:Ty) (w:ByteArray) (ha:a.kind=4) (hb:b.kind=4) (hl:b.words.length≤1000000000) (hn:b.words.length+1<n):AH n a b (Gx w)=some (Gx w,JR w b):=by
 obtain ⟨n,rfl⟩:∃ m,n=m+1:=⟨n-1,by omega⟩
 have c:(Gx w).text=w:=rfl
 rw [AH,FQ,MD (.inl (by omega)),Af (by decide),Ac (show ¬ b.kind=2 by omega),Af (by decide),Ac (show ¬ b.kind=3 by omega),BJ,Af (by decide),Ac (show ¬ b.kind=6 by omega),Af (by decide),Ac (show ¬ b.kind=7 by omega),BI,Af (by decide),Ac (show ¬ b.kind=5 by omega),Af (by decide),Ad hb,Ae rfl,JR]
 by_cases q:b.words=[]
 ·rw [Ae q,q,Af (by decide)];rfl
 ·have d:0<b.words.length:=List.length_pos_iff.2 q
  rw [Af q,Ae (by rw [decide_eq_true_eq];omega),Js n _ b hl (by omega),Ab,c]
theorem UH (n:Nat) (l:List ByteArray) (f:ByteArray→Option Bool) (p:ByteArray→Bool) (hf:∀ x∈l,f x=some (p x)) (hl:l.length≤1000000000) (hn:l.length<n):C2 n l f=some (l.any p):=by
 have b:∀ (k m i:Nat),i+k=l.length→k<m→B2 n l f m i=some (Ob p l i):=by
  intro k
  induction k with
  | zero =>
   intro m i c d
   obtain ⟨m,rfl⟩:∃ q,m=q+1:=⟨m-1,by omega⟩
   rw [B2,As,Ac (by omega),LI p l i (by omega)];rfl
  | succ k ih =>
   intro m i c d
   obtain ⟨m,rfl⟩:∃ q,m=q+1:=⟨m-1,by omega⟩
   have a:i<l.length:=by omega
   rw [B2,As,Ad a,Ae rfl,Az a,Ab,hf _ (List.getElem_mem a),Ab,JU p l i a]
   cases p l[i] with
   | true=>rfl
   | false =>
    rw [Af (by decide),Ae (Av (by omega)),Af (show ¬ (false=true) by decide)]
    exact ih m (i+1) (by omega) (by omega)
 have e:EM n l f=some (Ob p l 0):=b l.length n 0 (by omega) hn
 rw [C2,e,Ab,Ns]
theorem ZhY (n:Nat) (a b:Ty) (ha:a.kind=4) (hb:b.kind=4) (la:a.words.length≤1048576) (lb:b.words.length≤1048576) (hn:1048580<n):G0 n a b=some (Zbw a b):=by
 rw [G0,Zbw]
 by_cases q:a.words=[]
 ·rw [q,Af (by decide),Af (show ¬ (([]:List ByteArray)≠[]) from fun h=>h rfl)]
  by_cases r:b.words=[]
  ·rw [r,Af (by decide),Af (show ¬ (([]:List ByteArray)≠[]) from fun h=>h rfl)];rfl
  ·have e:0<b.words.length:=List.length_pos_iff.2 r
   rw [Ae r,Ae (by rw [decide_eq_true_eq];omega)]
   by_cases z:a.max=0
   ·rw [Ad z,Ae rfl,Js n _ b (by omega) (by omega),JR,Af r,Bool.true_and];rfl
   ·rw [Ac z,Af (by decide),Bool.false_and]
 ·have d:0<a.words.length:=List.length_pos_iff.2 q
  rw [Ae q,Ae (by rw [decide_eq_true_eq];omega),UH n a.words (fun c=>EB n c a b) (fun w => !JR w b) (fun x f=>by rw [EB,Zfv n a b x ha hb (by omega) (by omega)];rfl) (by omega) (by omega),Ab,List.not_any_eq_all_not]
  simp
theorem Zc3 (rec:Ty→Ty→Option Bool) (n:Nat) (a b:Ty) (la:a.words.length≤1048576) (lb:b.words.length≤1048576) (hn:1048580<n):∀ (k m i:Nat),i+k=a.words.length→k<m →
  Ib rec n a b m i=if ((a.words.drop i).all fun w=>JR w b)=true then P0 rec n a b else some false:=by
 intro k
 induction k with
 | zero =>
  intro m i e d
  obtain ⟨m,rfl⟩:∃ q,m=q+1:=⟨m-1,by omega⟩
  rw [Ib,As,Ac (by omega),Af (show ¬ (false=true) by decide),List.drop_eq_nil_of_le (by omega),List.all_nil,Ae (show true=true from rfl)]
 | succ k ih =>
  intro m i e d
  obtain ⟨m,rfl⟩:∃ q,m=q+1:=⟨m-1,by omega⟩
  have c:i<a.words.length:=by omega
  rw [Ib,As,Ad c,Ae rfl,Az c,Ab,Xj n _ b (by omega) (by omega),Ab,List.drop_eq_getElem_cons c,List.all_cons]
  cases JR a.words[i] b with
  | false=>rw [Ae (show (!false)=true from rfl),Bool.false_and,Af (show ¬ (false=true) by decide)]
  | true =>
   rw [Af (show ¬ ((!true)=true) by decide),Ae (Av (by omega)),Bool.true_and]
   exact ih m (i+1) (by omega) (by omega)
theorem Zga (rec:Ty→Ty→Option Bool) (n:Nat) (a b:Ty) (la:a.words.length≤1048576) (lb:b.words.length≤1048576) (hn:1048580<n):Ib rec n a b n 0=some (Zbw a b):=by
 have e:=Zc3 rec n a b la lb hn a.words.length n 0 (by omega) (by omega)
 have c:Ib rec n a b n 0=_:=e
 rw [c,List.drop_zero,Zbw,P0]
 by_cases q:a.words=[]
 ·rw [q,List.all_nil,Ae rfl,Af (by decide),Af (show ¬ (([]:List ByteArray)≠[]) from fun h=>h rfl)]
  by_cases r:b.words=[]
  ·rw [r,Af (by decide),Af (show ¬ (([]:List ByteArray)≠[]) from fun h=>h rfl)];rfl
  ·have f:0<b.words.length:=List.length_pos_iff.2 r
   rw [Ae r,Ae (by rw [decide_eq_true_eq];omega)]
   by_cases z:a.max=0
   ·rw [Ad z,Ae rfl,Xj n _ b (by omega) (by omega),Bool.true_and];rfl
   ·rw [Ac z,Af (by decide),Bool.false_and]
 ·have d:0<a.words.length:=List.length_pos_iff.2 q
  rw [Ae q]
  cases h:a.words.all fun w=>JR w b with
  | false=>rfl
  | true=>rw [Ae rfl,Ae (by rw [decide_eq_true_eq];omega)]
def ZfL (f:Ty→Ty→Bool) (a:Ty) (g:TF):Bool:=match E6 a.fields g.1 with | none => !decide (g.2.2.1=1) | some p=>f p.2.2.2.1 g.2.2.2.1 && !(decide (g.2.2.1=1)&&decide (p.2.2.1=2))
def Zgq (f:Ty→Ty→Bool) (b:Ty) (p:TF):Bool:=match E6 b.fields p.1 with | none=>false | some g=>f p.2.2.2.1 g.2.2.2.1
theorem YA (rec:Ty→Ty→Option Bool) (f:Ty→Ty→Bool) (n:Nat) (a b:Ty) (la:a.fields.length≤1000000) (lb:b.fields.length≤1000000) (hn:1048580<n) (hr:∀ g∈b.fields,∀ p,E6 a.fields g.1=some p→rec p.2.2.2.1 g.2.2.2.1=some (f p.2.2.2.1 g.2.2.2.1)):∀ (k m i:Nat),i+k=b.fields.length→k<m →
  He rec n a b m i=some ((b.fields.drop i).all (ZfL f a))
 | k,0,i,_,h=>absurd h (Nat.not_lt_zero _)
 | 0,m+1,i,hi,_=>by
  rw [He,As,Ac (by omega),Af (by decide),List.drop_eq_nil_of_le (by omega),List.all_nil];rfl
 | k+1,m+1,i,hi,hm=>by
  have d:i<b.fields.length:=by omega
  have j:=List.getElem_mem d
  have ih:=YA rec f n a b la lb hn hr k m (i+1) (by omega) (by omega)
  rw [He,As,Ad d,Ae rfl,Az d,Ab,JF n a _ (by omega) (by omega),Ab,List.drop_eq_getElem_cons d,List.all_cons,ZfL]
  cases q:E6 a.fields b.fields[i].1 with
  | none =>
   by_cases c:b.fields[i].2.2.1=1
   ·rw [Ad c,Ae (by rfl)];rfl
   ·rw [Ac c,Af (by simp),Af (by simp),Ae (Av (by omega))]
    simpa using ih
  | some p =>
   rw [Af (by simp),Ae Option.isSome_some,Option.getD_some,hr _ j p q,Ab]
   simp only
   cases hf:f p.2.2.2.1 b.fields[i].2.2.2.1 with
   | false=>rw [Ae (by rfl)];simp [hf]
   | true =>
    by_cases c:b.fields[i].2.2.1=1∧p.2.2.1=2
    ·rw [Ad c.1,Ad c.2,Ae (by rfl)];simp [hf]
    ·have e:(decide (b.fields[i].2.2.1=1)&&decide (p.2.2.1=2))=false:=by
      rw [Bool.eq_false_iff];intro z;rw [Bool.and_eq_true,decide_eq_true_eq,decide_eq_true_eq] at z;exact c z
     rw [e,Af (by decide),Ae (Av (by omega))]
     refine (show He rec n a b m ((i:Int)+1)=_ from ih).trans ?_
     simp [hf]
theorem YL (rec:Ty→Ty→Option Bool) (f:Ty→Ty→Bool) (n:Nat) (a b:Ty) (la:a.fields.length≤1000000) (lb:b.fields.length≤1000000) (hn:1048580<n) (hr:∀ p∈a.fields,∀ g,E6 b.fields p.1=some g→rec p.2.2.2.1 g.2.2.2.1=some (f p.2.2.2.1 g.2.2.2.1)):∀ (k m i:Nat),i+k=a.fields.length→k<m →
  Ji rec n a b m i=some ((a.fields.drop i).all (Zgq f b))
 | k,0,i,_,h=>absurd h (Nat.not_lt_zero _)
 | 0,m+1,i,hi,_=>by
  rw [Ji,As,Ac (by omega),Af (by decide),List.drop_eq_nil_of_le (by omega),List.all_nil];rfl
 | k+1,m+1,i,hi,hm=>by
  have c:i<a.fields.length:=by omega
  have d:=List.getElem_mem c
  have ih:=YL rec f n a b la lb hn hr k m (i+1) (by omega) (by omega)
  rw [Ji,As,Ad c,Ae rfl,Az c,Ab,JF n b _ (by omega) (by omega),Ab,List.drop_eq_getElem_cons c,List.all_cons,Zgq]
  cases q:E6 b.fields a.fields[i].1 with
  | none=>rw [Ae (by rfl)];rfl
  | some g =>
   rw [Af (by simp),Option.getD_some,hr _ d g q,Ab]
   simp only
   cases hf:f a.fields[i].2.2.2.1 g.2.2.2.1 with
   | false=>rfl
   | true =>
    rw [Af (by decide),Ae (Av (by omega)),Bool.true_and]
    exact ih
theorem XU {α:Type} (l:List α) (p:α→Bool):(!l.any fun x => !p x)=l.all p:=by rw [List.not_any_eq_all_not];simp
theorem Ud:∀ (d n:Nat) (a b:Ty),a.small→b.small→a.Good→b.Good→a.depth≤d→d+2000000<n→AK n a b=some (Me d a b)∧HK n a b=some (Me d a b)
 | 0,n,a,b,_,_,_,_,h,_=>by have:=a.depth_eq;omega
 | d+1,0,a,b,_,_,_,_,_,h=>absurd h (by omega)
 | d+1,n+1,a,b,sa,sb,ga,gb,hd,hn=>by
  have r:=ga.own
  have s:=gb.own
  have Q:=a.lens
  have U:=b.lens
  have J:=sa.1
  have O:=sb.1
  have E:=(a.ok_eq.1 sa.2.2).1
  have C:=(b.ok_eq.1 sb.2.2).1
  rw [AK,Fo,HK,Yt,Me]
  by_cases num:(a.kind=2∨a.kind=3)∧(b.kind=2∨b.kind=3)
  ·have m:(if decide (b.kind=2)=true then BH (AK n) n a b true else BH (AK n) n a b (decide (b.kind=3)))=BH (AK n) n a b true:=by
    rcases num.2 with q | q
    ·rw [Ad q,Ae rfl]
    ·rw [Ad q];exact ite_self _
   have H:=r.scale
   have N:=s.scale
   have j:=ZfV n a b r s num.1 num.2 (by omega)
   rw [Ae num,MD (.inr num),Af (by decide),m,BH,Ae rfl,Zh5 n a b r s num.1 num.2 (by omega),QX r num.1,QX s num.2,Ad H.1,Ad N.1,Ae (by rfl),Ae (by unfold BQ;omega)]
   exact ⟨rfl,j⟩
  have v:(decide (0≤A3 a)&&decide (0≤A3 b))=false:=by
   rw [Bool.eq_false_iff]
   intro q
   rw [Bool.and_eq_true,decide_eq_true_eq,decide_eq_true_eq] at q
   exact num ⟨Pn q.1,Pn q.2⟩
  rw [Af num,v,Af (show ¬ (false=true) by decide)]
  by_cases ne:a.kind=b.kind
  rotate_left
  ·rw [Ae ne,TT ne num,Ae (by rfl),Ac ne,Ae (by rfl)]
   exact ⟨rfl,rfl⟩
  have u:¬ b.kind=2:=fun q=>num ⟨by omega,.inl q⟩
  have w:¬ b.kind=3:=fun q=>num ⟨by omega,.inr q⟩
  rw [Af (show ¬ a.kind≠b.kind from fun q=>q ne),MD (.inl ne),Af (show ¬ ((!true)=true) by decide),Ac u,Af (show ¬ (false=true) by decide),Ac w,BH,Af (show ¬ (false=true) by decide),Ad ne,Af (show ¬ ((!true)=true) by decide)]
  by_cases k1:b.kind=1
  ·rw [Ae k1,Ad k1,Ae rfl,Ae rfl]
   exact ⟨rfl,rfl⟩
  rw [Af k1,Ac k1,Af (show ¬ (false=true) by decide),Af (show ¬ (false=true) by decide)]
  by_cases k4:b.kind=4
  ·rw [Ae k4,Ad k4,Ae rfl,Ae rfl,ZhY n a b (by omega) k4 E C (by omega),Zga _ n a b E C (by omega)]
   exact ⟨rfl,rfl⟩
  rw [Af k4,Ac k4,Af (show ¬ (false=true) by decide),Af (show ¬ (false=true) by decide)]
  by_cases k8:b.kind=8
  ·obtain ⟨x,F⟩:=r.elem (by omega)
   obtain ⟨y,D⟩:=s.elem k8
   have k:x∈a.elem:=by rw [F];simp
   have l:y∈b.elem:=by rw [D];simp
   obtain ⟨G,K⟩:=Ud d n x y (Ty.small_elem sa k) (Ty.small_elem sb l) (GE ga k) (GE gb l) (by have:=Ty.depth_elem k;omega) (by omega)
   rw [Ae k8,Ad k8,Ae rfl,Ae rfl,F,D,show B7 [x] 0=some x from rfl,show B7 [y] 0=some y from rfl,Ab,Ab,Ab,Ab,G,K,show C7 a b=YD a b from rfl,show Lu a b=YD a b from rfl]
   cases YD a b with
   | false=>exact ⟨rfl,rfl⟩
   | true =>
    by_cases z:a.max=0
    ·rw [Ad z];exact ⟨rfl,rfl⟩
    ·rw [Ac z];exact ⟨rfl,rfl⟩
  rw [Af k8,Ac k8,Af (show ¬ (false=true) by decide),Af (show ¬ (false=true) by decide)]
  by_cases k9:b.kind=9
  ·have ih:∀ g∈b.fields,∀ p,E6 a.fields g.1=some p→AK n p.2.2.2.1 g.2.2.2.1=some (Me d p.2.2.2.1 g.2.2.2.1)∧HK n p.2.2.2.1 g.2.2.2.1=some (Me d p.2.2.2.1 g.2.2.2.1):=fun g e p c=>by
    have i:p∈a.fields:=List.mem_of_find?_eq_some c
    exact Ud d n _ _ (Ty.small_field sa i) (Ty.small_field sb e) (BD ga i) (BD gb e) (by have:=Ty.depth_field i;omega) (by omega)
   have m:=Kp n b.fields (fun t=>CY (AK n) n t a) (fun g => !ZfL (Me d) a g) (fun g e=>by
    rw [CY,Jr,Q3 n a.fields _ (by omega) (by omega),Ab,ZfL]
    cases q:E6 a.fields g.1 with
    | none=>rfl
    | some p=>rw [Af (by simp),Option.getD_some,(ih g e p q).1];rfl) (by omega) (by omega)
   have j:=YA (HK n) (Me d) n a b (by omega) (by omega) (by omega) (fun g e p c=>(ih g e p c).2) b.fields.length n 0 (by omega) (by omega)
   rw [List.drop_zero] at j
   have f:He (HK n) n a b n 0=_:=j
   rw [Ae k9,Ad k9,Ae rfl,m,Ab,Ac (show ¬ b.kind=10 by omega),Af (show ¬ (false=true) by decide),Ae rfl,f,XU]
   exact ⟨rfl,rfl⟩
  rw [Af k9,Ac k9,Af (show ¬ (false=true) by decide)]
  by_cases k10:b.kind=10
  ·have ih:∀ p∈a.fields,∀ g,E6 b.fields p.1=some g→AK n p.2.2.2.1 g.2.2.2.1=some (Me d p.2.2.2.1 g.2.2.2.1)∧HK n p.2.2.2.1 g.2.2.2.1=some (Me d p.2.2.2.1 g.2.2.2.1):=fun p c g e=>by
    have o:g∈b.fields:=List.mem_of_find?_eq_some e
    exact Ud d n _ _ (Ty.small_field sa c) (Ty.small_field sb o) (BD ga c) (BD gb o) (by have:=Ty.depth_field c;omega) (by omega)
   have m:=Kp n a.fields (fun t=>C0 (AK n) n t b) (fun p => !Zgq (Me d) b p) (fun p c=>by
    rw [C0,IM,Q3 n b.fields _ (by omega) (by omega),Ab,Zgq]
    cases q:E6 b.fields p.1 with
    | none=>rfl
    | some g=>rw [Ae (by rfl),Option.getD_some,(ih p c g q).1];rfl) (by omega) (by omega)
   have j:=YL (HK n) (Me d) n a b (by omega) (by omega) (by omega) (fun p c g e=>(ih p c g e).2) a.fields.length n 0 (by omega) (by omega)
   rw [List.drop_zero] at j
   have f:Ji (HK n) n a b n 0=_:=j
   rw [Ae k10,Ad k10,Ae rfl,Ae rfl,m,Ab,f,XU]
   exact ⟨rfl,rfl⟩
  ·rw [Af k10,Ac k10,Af (show ¬ (false=true) by decide),Af (show ¬ (false=true) by decide),Af (show ¬ (false=true) by decide)]
   exact ⟨rfl,rfl⟩
theorem Zcj {f:Ty→Ty→Vl→Option Vl} {a:Ty} {v:Vl} {g:TF} {o:List (ByteArray × Vl)} (h:L6 f a v g=some o) :
  (∃ p x y,E6 a.fields g.1=some p∧CG v p.2.1=some x∧f p.2.2.2.1 g.2.2.2.1 x=some y∧o=[(g.2.1,y)])∨(g.2.2.1=3∧∃ x r,g.2.2.2.2=x::r∧o=[(g.2.1,x)])∨(o=[]∧g.2.2.1≠1∧(g.2.2.1=3→g.2.2.2.2=[])):=by
 have b:VD g=some o→(g.2.2.1=3∧∃ x r,g.2.2.2.2=x::r∧o=[(g.2.1,x)])∨(o=[]∧g.2.2.1≠1∧(g.2.2.1=3→g.2.2.2.2=[])):=fun h=>by
  rw [VD] at h
  by_cases c1:g.2.2.1=1
  ·rw [Ae c1] at h;cases h
  rw [Af c1] at h
  by_cases c3:g.2.2.1=3
  ·rw [Ae c3] at h
   cases q:g.2.2.2.2 with
   | nil=>rw [q] at h;cases h;exact .inr ⟨rfl,c1,fun _=>rfl⟩
   | cons x r=>rw [q] at h;cases h;exact .inl ⟨c3,x,r,rfl,rfl⟩
  ·rw [Af c3] at h;cases h;exact .inr ⟨rfl,c1,fun q=>absurd q c3⟩
 rw [L6] at h
 cases hp:E6 a.fields g.1 with
 | none=>rw [hp] at h;exact .inr (b h)
 | some p =>
  rw [hp] at h
  cases hx:CG v p.2.1 with
  | none=>simp only [hx] at h;exact .inr (b h)
  | some x =>
   simp only [hx] at h
   obtain ⟨y,c,rfl⟩:=Option.map_eq_some_iff.1 h
   exact .inl ⟨p,x,y,rfl,hx,c,rfl⟩
theorem ZO {f:Ty→Ty→Vl→Option Vl} {a:Ty} {v:Vl} {g:TF} {o:List (ByteArray × Vl)} (h:L6 f a v g=some o):o.map Prod.fst=[g.2.1]∨o=[]:=by
 rcases Zcj h with ⟨p,x,y,_,_,_,rfl⟩ | ⟨_,x,r,_,rfl⟩ | ⟨rfl,_⟩
 ·exact .inl rfl
 ·exact .inl rfl
 ·exact .inr rfl
theorem Sj (f:Ty→Ty→Vl→Option Vl) (a:Ty) (v:Vl):∀ (gs:List TF) (l:List (ByteArray × Vl)),Nh f a v gs=some l →
  (l.map Prod.fst).Sublist (gs.map fun g=>g.2.1)∧(∀ g∈gs,∃ o,L6 f a v g=some o∧∀ q∈o,q∈l)∧∀ q∈l,∃ g∈gs,∃ o,L6 f a v g=some o∧q∈o
 | [],l,h=>by rw [Nh] at h;cases h;simp
 | g::gs,l,h=>by
  rw [Nh] at h
  obtain ⟨o,ho,h⟩:=Option.bind_eq_some_iff.1 h
  obtain ⟨m,j,rfl⟩:=Option.map_eq_some_iff.1 h
  obtain ⟨h1,i,d⟩:=Sj f a v gs m j
  refine ⟨?_,fun x hx=>?_,fun q hq=>?_⟩
  ·rw [List.map_append,List.map_cons]
   rcases ZO ho with e | e
   ·rw [e,List.singleton_append];exact h1.cons_cons _
   ·subst e;exact h1.cons _
  ·rcases List.mem_cons.1 hx with rfl | hx
   ·exact ⟨o,ho,fun q hq=>List.mem_append_left _ hq⟩
   ·obtain ⟨c,b,k⟩:=i x hx
    exact ⟨c,b,fun q hq=>List.mem_append_right _ (k q hq)⟩
  ·rcases List.mem_append.1 hq with hq | hq
   ·exact ⟨g,List.mem_cons_self .., o,ho,hq⟩
   ·obtain ⟨x,hx,c,b,k⟩:=d q hq
    exact ⟨x,List.mem_cons_of_mem _ hx,c,b,k⟩
def C6 (n:Nat) (q:Ty) (h:Ty):Option Int :=
 (EG n q).bind fun b =>
 if !(decide (b=0)) then
  some (b)
 else
  (EG n h).bind fun g =>
  some (g)
theorem E0 (w0:World) (hT:Lib.Utf8Tabs 0 1 w0) (n:Nat) (B:List (List AV)) (Rw:List RowA) (L:List LoopA) (a0:Ty) (a1:Ty) (r:Int) (h:C6 n a0 a1=some r) :
  ACalls Tryz.prog w0 78 [.agg (a0.cs),.agg (a1.cs)] ⟨B,Rw,L⟩ fun x st=>x = .val (.int .i64 r)∧st=⟨B,Rw,L⟩:=by
 rw [C6] at h
 refine hd [.tmp 4] Tryz.func78 Tryz.ntmps78 fun M0 W0 o j i a m g hs=>?_
 simp only [Au]
 refine rg [2,3] hs ?_
 apply Ah;intro K2 c
 obtain ⟨k,f,h⟩:=bind_some h
 refine rc 2 [3,5] hs ?_;intro K3 b
 refine Ai _ (Qb w0 hT n _ _ _ a0 _ f) (hv hs) ?_
 refine ne hs b ?_
 clear b
 refine rg [3,5,9] hs ?_
 refine AN h hs (fun hs h=>?_) (fun hs h=>?_)
 ·refine rg [4] hs ?_
  exact rt h hs a g
 refine sk [3] hs c ?_
 clear c
 obtain ⟨l,e,h⟩:=bind_some h
 refine rc 2 [4] hs ?_;intro K8 d
 refine Ai _ (Qb w0 hT n _ _ _ a1 _ e) (hv hs) ?_
 refine ne hs d ?_
 clear d
 exact rt h hs a g
def ED (n:Nat) (g:Ty) (a1:Ty) (a2:Vl):Option (Vl × Int) :=
 (C6 n g a1).bind fun y =>
 if !(decide (y=0)) then
  some ((Vl.mk 0 0 0 ((⟨#[]⟩:ByteArray)) ([]) ([]),y))
 else
  (FC n g a2).bind fun q =>
  if !(decide (q.2=0)) then
   some ((Vl.mk 0 0 0 ((⟨#[]⟩:ByteArray)) ([]) ([]),q.2))
  else
   (AH n g a1 q.1).bind fun b =>
   if !b.2 then
    some ((Vl.mk 0 0 0 ((⟨#[]⟩:ByteArray)) ([]) ([]),20))
   else
    (EX n b.1).bind fun h =>
    if !(decide (h=0)) then
     some ((Vl.mk 0 0 0 ((⟨#[]⟩:ByteArray)) ([]) ([]),9))
    else
     (Bn n b.1).bind fun s =>
     some ((s,0))
theorem Ly (w0:World) (hP:Pow10 w0) (hT:Lib.Utf8Tabs 0 1 w0) (n:Nat) (B:List (List AV)) (Rw:List RowA) (L:List LoopA) (a0:Ty) (a1:Ty) (a2:Vl) (r:Vl × Int) (h:ED n a0 a1 a2=some r) :
  ACalls Tryz.prog w0 29 [.agg (a0.cs),.agg (a1.cs),.agg (a2.cs)] ⟨B,Rw,L⟩ fun x st=>x = .tup [.agg (r.1.cs),.val (.int .i64 r.2)]∧st=⟨B,Rw,L⟩:=by
 rw [ED] at h
 refine hd [.cell 6 46,.tmp 7] Tryz.func29 Tryz.ntmps29 fun M0 W0 C t w a D o hs=>?_
 simp only [Au]
 refine rg [3,4,5,6] hs ?_
 apply Ah;intro K2 p
 obtain ⟨z,q,h⟩:=bind_some h
 refine rc 2 [3,4,5,6,8] hs ?_;intro K3 j
 refine Ai _ (E0 w0 hT n _ _ _ a0 a1 _ q) (hv hs) ?_
 refine ne hs j ?_
 clear j
 refine rg [3,4,5,6,8,16] hs ?_
 refine AN h hs (fun hs h=>?_) (fun hs h=>?_)
 ·refine rg [6,7] hs ?_
  exact rt h hs a o
 refine sk [3,4,5,6] hs p ?_
 clear p
 obtain ⟨u,s,h⟩:=bind_some h
 refine rc 2 [3,4,5,6,9] hs ?_;intro K8 k
 refine Ai _ (NZ w0 hP hT n _ _ _ a0 a2 _ s) (hv hs) ?_
 refine ne hs k ?_
 clear k
 apply Ah;intro K10 d
 refine rg [3,4,5,6,9,26] hs ?_
 refine AN h hs (fun hs h=>?_) (fun hs h=>?_)
 ·refine rg [6,7] hs ?_
  exact rt h hs a o
 refine sk [3,4,5,6] hs d ?_
 clear d
 obtain ⟨l,m,h⟩:=bind_some h
 refine rc 2 [6,10,11] hs ?_;intro K14 f
 refine Ai _ (Iz w0 n _ _ _ a0 a1 u.1 _ m) (hv hs) ?_
 refine ne hs f ?_
 clear f
 apply Ah;intro K16 b
 apply Ak
 refine rg [6,10,36] hs ?_
 refine AN h hs (fun hs h=>?_) (fun hs h=>?_)
 ·refine rg [6,7] hs ?_
  exact rt h hs a o
 obtain ⟨y,g,h⟩:=bind_some h
 refine rc 2 [6,10,40] hs ?_;intro K20 e
 refine Ai _ (KX w0 hT n _ _ _ l.1 _ g) (hv hs) ?_
 refine ne hs e ?_
 clear e
 refine AN h hs (fun hs h=>?_) (fun hs h=>?_)
 ·refine rg [6,7] hs ?_
  exact rt h hs a o
 refine sk [6,10] hs b ?_
 clear b
 obtain ⟨v,i,h⟩:=bind_some h
 refine rc 2 [6,7] hs ?_;intro K24 c
 refine Ai _ (Fb w0 n _ _ _ l.1 _ i) (hv hs) ?_
 refine ne hs c ?_
 clear c
 exact rt h hs a o
def UpR (t1 t2:Ty) (v:Vl):Vl × Int:=if IE 12 t1 (BC 12 t1 v)=true then (match Sr 12 t1 t2 (BC 12 t1 v) with | none=>(nilV,20) | some y=>if L1 y=0 then (y,0) else (nilV,9)) else (nilV,18)
theorem Z6 (n:Nat) (t1 t2:Ty) (v:Vl) (hn:10000000000≤n) (q1:t1.small) (q2:t2.small) (vok:v.ok) (hv:v.size≤1048576) (e1:EG n t1=some 0) (e2:EG n t2=some 0) (g1:t1.Fine 8) (g2:t2.Fine 8):ED n t1 t2 v=some (UpR t1 t2 v):=by
 have j:∀ c:Int,c≠0→(!decide (c=0))=true:=fun c h=>by rw [Ac h];rfl
 have b:(!decide ((0:Int)=0))=false:=by decide
 have d:C6 n t1 t2=some 0:=by rw [C6,e1,Ab,b,Af (show ¬ (false=true) by decide),e2];rfl
 have k:=SG n t1 v q1 vok hv (by omega)
 obtain ⟨m,i⟩:=OY 12 t1 v q1 vok hv
 have s:=v.depth_size
 rw [ED,d,Ab,b,Af (show ¬ (false=true) by decide),k,Ab,UpR]
 by_cases hf:IE 12 t1 (BC 12 t1 v)=true
 rotate_left
 ·rw [Af hf,Af hf,Ae (show (!decide ((nilV,(18:Int)).2=0))=true by decide)]
 rw [Ae hf,Ae hf,b,Af (show ¬ (false=true) by decide)]
 obtain ⟨e,q,l,p,a,r⟩:=Zl 12 n (v.depth+1048576) 8 t1 t2 (BC 12 t1 v) q1 q2 g1.good g2 m i hf (by omega)
 rw [l,Ab]
 cases o:Sr 12 t1 t2 (BC 12 t1 v) with
 | none =>
  rw [o] at a
  have x1:e.2=false:=a.1
  rw [x1,Ae (by rfl)]
 | some y =>
  rw [o] at a
  have x1:e=(y,true):=a.1
  obtain ⟨_,g,f⟩:=a
  subst x1
  have f:y.depth≤v.depth+1048576+1048576:=f
  rw [Af (by simp),Vo n y (by omega) (by omega) g,Ab]
  by_cases c:L1 y=0
  ·rw [c,b,Af (show ¬ (false=true) by decide),GK n y g (by omega),Ab];simp only [c,if_true]
  ·rw [Ae (j _ c)];simp only [c,if_false]
def EC (rec:Ty→Ty→Option Bool) (n:Nat) (b:Int × ByteArray × Int × Ty × List Vl) (q:Ty):Option Bool :=
 (C4 n q.fields b.1).bind fun g =>
 if !g.2 then
  some (true)
 else
  (rec b.2.2.2.1 g.1.2.2.2.1).bind fun h =>
  some ((!h)||((decide (b.2.2.1=2))&&(!(decide (g.1.2.2.1=2)))))
theorem Q0 (w0:World) (rec:Ty→Ty→Option Bool) (ih:∀ (B:List (List AV)) (Rw:List RowA) (L:List LoopA) (a0:Ty) (a1:Ty) (r:Bool) (h:rec a0 a1=some r),ACalls Tryz.prog w0 94 [.agg (a0.cs),.agg (a1.cs)] ⟨B,Rw,L⟩ fun x st=>x = .val (.bool r)∧st=⟨B,Rw,L⟩) (n:Nat) (B:List (List AV)) (Rw:List RowA) (L:List LoopA) (a0:Int × ByteArray × Int × Ty × List Vl) (la1:Nat) (a1:Ty) (hla1:B[la1]? = some (a1.cs)) (r:Bool) (h:EC rec n a0 a1=some r) :
  ACalls Tryz.prog w0 160 [.agg (.val (.int .i64 a0.1)::(.val (.string a0.2.1)::(.val (.int .i64 a0.2.2.1)::((a0.2.2.2.1.cs)++([.list (a0.2.2.2.2.map Bo) .none]))))),.box la1 0] ⟨B,Rw,L⟩ fun x st=>x = .val (.bool r)∧st=⟨B,Rw,L⟩:=by
 rw [EC] at h
 refine hd [.tmp 3] Tryz.func160 Tryz.ntmps160 fun M0 W0 o k j a m g hs=>?_
 simp only [Au]
 have d:=(Ag.1 hla1).1
 have hs:=Aa (An hla1) hs
 refine rg [1,2] hs ?_
 obtain ⟨i,f,h⟩:=bind_some h
 refine rc 2 [2,4,5] hs ?_;intro K2 c
 refine Ai _ (EJ w0 n _ _ _ a1.fields a0.1 _ f) (hv hs) ?_
 refine ne hs c ?_
 clear c
 apply Ah;intro K4 b
 rcases Bool.eq_false_or_eq_true (!i.2) with hf5 | hf5
 ·replace h:=Ba h hf5
  have hs:=Aa hf5 hs
  refine rk 2 [3] hs ?_
  refine AD ?_
  refine ne hs b ?_
  clear b
  exact rt h hs a g
 ·replace h:=A9 h hf5
  obtain ⟨l,e,h⟩:=bind_some h
  have hs:=Aa hf5 hs
  refine rk 2 [3] hs ?_
  refine Ai _ (ih _ _ _ a0.2.2.2.1 i.1.2.2.2.1 _ e) (hv hs) ?_
  refine ne hs b ?_
  clear b
  exact rt h hs a g
def CN (rec:Ty→Ty→Option Bool) (n:Nat) (h:Ty) (s:Ty) (b:Bool):Option Bool :=
 if b then
  (AE n h.fields (fun (q:Int × ByteArray × Int × Ty × List Vl)=>EC rec n q s)).bind fun g =>
  some (!g)
 else
  some (true)
def IP (rec:Ty→Ty→Option Bool) (n:Nat) (g:Ty) (b:Ty):Option Bool :=
 (AK n g b).bind fun y =>
 if !y then
  some (false)
 else
  if decide (b.kind=8) then
   if decide (g.max=0) then
    some (true)
   else
    (B7 g.elem 0).bind fun h =>
    (B7 b.elem 0).bind fun s =>
    (rec h s).bind fun q =>
    some (q)
  else
   if decide (b.kind=9) then
    CN rec n g b true
   else
    CN rec n g b (decide (b.kind=10))
def CM:Nat→Ty→Ty→Option Bool
 | 0,_,_=>none
 | n+1,b,g=>IP (CM n) n b g
def Lh (w0:World) (F:Ty→Ty→Option Bool):Prop:=∀ (B:List (List AV)) (Rw:List RowA) (L:List LoopA) (b:Ty) (g:Ty) (r:Bool),F b g=some r→ACalls Tryz.prog w0 94 [.agg (b.cs),.agg (g.cs)] ⟨B,Rw,L⟩ fun x st=>x = .val (.bool r)∧st=⟨B,Rw,L⟩
theorem QF (w0:World) (rec:Ty→Ty→Option Bool) (ih:Lh w0 rec) (n:Nat):Lh w0 (IP rec n):=by
 intro B Rw L a0 a1 r h
 rw [IP] at h
 refine hd [.tmp 4] Tryz.func94 Tryz.ntmps94 fun M0 W0 H v G a V g hs=>?_
 simp only [Au]
 refine rg [2,3] hs ?_
 apply Ah;intro K2 s
 obtain ⟨Q,u,h⟩:=bind_some h
 refine rc 2 [2,3,8] hs ?_;intro K3 m
 refine Ai _ (E2 w0 n _ _ _ a0 a1 _ u) (hv hs) ?_
 refine ne hs m ?_
 clear m
 refine AN h hs (fun hs h=>?_) (fun hs h=>?_)
 ·refine rg [4] hs ?_
  exact rt h hs a g
 refine sk [2,3] hs s ?_
 clear s
 apply Ah;intro K7 q
 refine rg [2,3,10] hs ?_
 apply Ak
 refine rg [2,3,10,11] hs ?_
 refine AN h hs (fun hs h=>?_) (fun hs h=>?_)
 ·apply Ah;intro K11 c
  rcases Bool.eq_false_or_eq_true (decide (a0.max=0)) with hf12 | hf12
  ·replace h:=Ba h hf12
   have hs:=Aa hf12 hs
   refine dk 15 2 1 [4] hs HH ?_
   refine AD ?_
   refine dn hs c ?_
   clear c
   exact rt h hs a g
  ·replace h:=A9 h hf12
   obtain ⟨D,x,F,f,h⟩:=ix HF h
   have l:(a0.elem.map HF).getD 0 .junk=_:=f
   obtain ⟨y,E,z,d,h⟩:=ix HF h
   have k:(a1.elem.map HF).getD 0 .junk=_:=d
   obtain ⟨K,o,h⟩:=bind_some h
   have hs:=Aa hf12 hs
   have hs:=Aa f hs
   have hs:=Aa l hs
   have hs:=Aa d hs
   have hs:=Aa k hs
   refine dk 15 2 1 [4] hs HH ?_
   refine Ai _ (ih _ _ _ D y _ o) (hv hs) ?_
   refine dn hs c ?_
   clear c
   exact rt h hs a g
 refine Aw (fun e st=>∃ (b:Bool),Ck e st B Rw L [(2,true,.box B.length 0),(3,true,.box (B.length+1) 0),(27,true,.val (.bool b))] [a0.cs,a1.cs] [] (CN rec n a0 a1 b=some r)) ?_ ?_
 ·intro K18 i
  refine rg [2,3,10,27] hs ?_
  refine AN h hs (fun hs h=>?_) (fun hs h=>?_)
  ·refine sk [2,3,27] hs i ?_
   exact ⟨true,([]),Rw,ef hs,ef hs,g,h⟩
  refine rl [2,3,27] hs i ?_
  exact ⟨(decide (a1.kind=10)),([]),Rw,ef hs,ef hs,g,h⟩
 ·clear h;rintro e st ⟨b,Xk17,Rk17,rfl,rfl,g,h⟩
  rw [CN] at h
  refine td H v G a g ?_
  refine AN h hs (fun hs h=>?_) (fun hs h=>?_)
  ·obtain ⟨N,p,h⟩:=bind_some h
   refine rc 2 [4] hs ?_;intro K22 j
   refine Ai _ (B8 w0 n _ _ _ a0.fields 160 [.box (B.length+1) 0] (fun (w:Int × ByteArray × Int × Ty × List Vl)=>EC rec n w a1) (fun w r O U C t J=>by exact Q0 w0 rec ih n _ _ _ w _ a1 (DY t (ef hs)) _ O) _ p) (hv hs) ?_
   refine ne hs j ?_
   clear j
   exact rt h hs a g
  refine sk [] hs q ?_
  clear q
  refine rg [4] hs ?_
  exact rt h hs a g
theorem N4 (w0:World):∀ n:Nat,Lh w0 (CM n)
 | 0=>fun _ _ _ _ _ _ h=>(nomatch h)
 | n+1=>QF w0 (CM n) (N4 w0 n) n
def XJ (rec:Ty→Ty→Option Bool) (n:Nat)  : Option Bool :=
 some (true)
def F9 (rec:Ty→Ty→Option Bool) (n:Nat) (q:Ty) (y:Ty):Nat→Int→Option Bool
 | 0,_=>none
 | m+1,b =>
  if decide (b<(q.fields.length:Int)) then
   (B7 q.fields b).bind fun h =>
   (Gz n y h.1).bind fun g =>
   if !g.2 then
    some (false)
   else
    (rec h.2.2.2.1 g.1.2.2.2.1).bind fun s =>
    if (!s)||((decide (h.2.2.1=2))&&(!(decide (g.1.2.2.1=2)))) then
     some (false)
    else
     if BQ (b+1) then
      (F9 rec n q y m) (b+1)
     else none
  else
   XJ rec n 
def Vu (rec:Ty→Ty→Option Bool) (n:Nat) (g:Ty) (b:Ty):Option Bool :=
 (HK n g b).bind fun y =>
 if !y then
  some (false)
 else
  if decide (b.kind=8) then
   if decide (g.max=0) then
    some (true)
   else
    (B7 g.elem 0).bind fun h =>
    (B7 b.elem 0).bind fun q =>
    (rec h q).bind fun s =>
    some (s)
  else
   if (!(decide (b.kind=9)))&&(!(decide (b.kind=10))) then
    some (true)
   else
    F9 rec n g b n 0
def I5:Nat→Ty→Ty→Option Bool
 | 0,_,_=>none
 | n+1,b,g=>Vu (I5 n) n b g
def Zci (f:Ty→Ty→Bool) (b:Ty) (p:TF):Bool:=match E6 b.fields p.1 with | none=>false | some g=>f p.2.2.2.1 g.2.2.2.1 && !(decide (p.2.2.1=2) && !decide (g.2.2.1=2))
def N3:Nat→Ty→Ty→Bool
 | 0,_,_=>false
 | d+1,a,b=>Me (d+1) a b &&
  (if b.kind=8 then (decide (a.max=0)||(match a.elem,b.elem with | [x],[y]=>N3 d x y | _,_=>false))
  else if b.kind=9∨b.kind=10 then a.fields.all (Zci (N3 d) b)
  else true)
theorem WY (rec:Ty→Ty→Option Bool) (f:Ty→Ty→Bool) (n:Nat) (a b:Ty) (la:a.fields.length≤1000000) (lb:b.fields.length≤1000000) (hn:1048580<n) (hr:∀ p∈a.fields,∀ g,E6 b.fields p.1=some g→rec p.2.2.2.1 g.2.2.2.1=some (f p.2.2.2.1 g.2.2.2.1)):∀ (k m i:Nat),i+k=a.fields.length→k<m →
  F9 rec n a b m i=some ((a.fields.drop i).all (Zci f b))
 | k,0,i,_,h=>absurd h (Nat.not_lt_zero _)
 | 0,m+1,i,hi,_=>by
  rw [F9,As,Ac (by omega),Af (by decide),List.drop_eq_nil_of_le (by omega),List.all_nil];rfl
 | k+1,m+1,i,hi,hm=>by
  have d:i<a.fields.length:=by omega
  have j:=List.getElem_mem d
  have ih:=WY rec f n a b la lb hn hr k m (i+1) (by omega) (by omega)
  rw [F9,As,Ad d,Ae rfl,Az d,Ab,JF n b _ (by omega) (by omega),Ab,List.drop_eq_getElem_cons d,List.all_cons,Zci]
  cases q:E6 b.fields a.fields[i].1 with
  | none=>rw [Ae (by rfl)];rfl
  | some g =>
   rw [Af (by simp),Option.getD_some,hr _ j g q,Ab]
   simp only
   cases hf:f a.fields[i].2.2.2.1 g.2.2.2.1 with
   | false=>rw [Ae (by rfl)];simp
   | true =>
    by_cases c:a.fields[i].2.2.1=2∧¬ g.2.2.1=2
    ·rw [Ad c.1,Ac c.2,Ae (by rfl)];simp
    ·have e:(decide (a.fields[i].2.2.1=2) && !decide (g.2.2.1=2))=false:=by
      rw [Bool.eq_false_iff];intro z;rw [Bool.and_eq_true,decide_eq_true_eq,Bool.not_eq_true',decide_eq_false_iff_not] at z;exact c z
     rw [e,Af (by decide),Ae (Av (by omega))]
     refine (show F9 rec n a b m ((i:Int)+1)=_ from ih).trans ?_
     simp
theorem W7:∀ (d n:Nat) (a b:Ty),a.small→b.small→a.Good→b.Good→a.depth≤d→d+3000000<n→CM n a b=some (N3 d a b)∧I5 n a b=some (N3 d a b)
 | 0,n,a,b,_,_,_,_,h,_=>by have:=a.depth_eq;omega
 | d+1,0,a,b,_,_,_,_,_,h=>absurd h (by omega)
 | d+1,n+1,a,b,sa,sb,ga,gb,hd,hn=>by
  have F:=ga.own
  have H:=gb.own
  have K:=a.lens
  have N:=b.lens
  have D:=sa.1
  have J:=sb.1
  obtain ⟨v,w⟩:=Ud (d+1) n a b sa sb ga gb hd (by omega)
  rw [CM,IP,I5,Vu,N3,v,w,Ab,Ab]
  cases hc:Me (d+1) a b with
  | false=>exact ⟨rfl,rfl⟩
  | true =>
   have ne:(a.kind=b.kind)∨((a.kind=2∨a.kind=3)∧(b.kind=2∨b.kind=3)):=by
    rw [Me] at hc
    by_cases num:(a.kind=2∨a.kind=3)∧(b.kind=2∨b.kind=3)
    ·exact .inr num
    ·rw [Af num] at hc
     by_cases q:a.kind=b.kind
     ·exact .inl q
     ·rw [Ae q] at hc;cases hc
   rw [Af (show ¬ ((!true)=true) by decide),Af (show ¬ ((!true)=true) by decide),Bool.true_and]
   by_cases k8:b.kind=8
   ·obtain ⟨x,t⟩:=F.elem (by omega)
    obtain ⟨y,o⟩:=H.elem k8
    have c:x∈a.elem:=by rw [t];simp
    have f:y∈b.elem:=by rw [o];simp
    obtain ⟨u,G⟩:=W7 d n x y (Ty.small_elem sa c) (Ty.small_elem sb f) (GE ga c) (GE gb f) (by have:=Ty.depth_elem c;omega) (by omega)
    rw [Ae k8,Ad k8,Ae rfl,Ae rfl,t,o,show B7 [x] 0=some x from rfl,show B7 [y] 0=some y from rfl,Ab,Ab,Ab,Ab,u,G]
    by_cases z:a.max=0
    ·rw [Ad z];exact ⟨rfl,rfl⟩
    ·rw [Ac z];exact ⟨rfl,rfl⟩
   rw [Af k8,Ac k8,Af (show ¬ (false=true) by decide),Af (show ¬ (false=true) by decide)]
   by_cases k:b.kind=9∨b.kind=10
   ·have ih:∀ p∈a.fields,∀ g,E6 b.fields p.1=some g→CM n p.2.2.2.1 g.2.2.2.1=some (N3 d p.2.2.2.1 g.2.2.2.1)∧I5 n p.2.2.2.1 g.2.2.2.1=some (N3 d p.2.2.2.1 g.2.2.2.1):=fun p e g m=>by
     have i:g∈b.fields:=List.mem_of_find?_eq_some m
     exact W7 d n _ _ (Ty.small_field sa e) (Ty.small_field sb i) (BD ga e) (BD gb i) (by have:=Ty.depth_field e;omega) (by omega)
    have E:=Kp n a.fields (fun C=>EC (CM n) n C b) (fun p => !Zci (N3 d) b p) (fun p e=>by
     rw [EC,Q3 n b.fields _ (by omega) (by omega),Ab,Zci]
     cases q:E6 b.fields p.1 with
     | none=>rfl
     | some g=>rw [Af (by simp),Option.getD_some,(ih p e g q).1,Ab];simp only;cases N3 d p.2.2.2.1 g.2.2.2.1<;>cases decide (p.2.2.1=2)<;>cases decide (g.2.2.1=2)<;>rfl) (by omega) (by omega)
    have s:=WY (I5 n) (N3 d) n a b (by omega) (by omega) (by omega) (fun p e g m=>(ih p e g m).2) a.fields.length n 0 (by omega) (by omega)
    rw [List.drop_zero] at s
    have j:F9 (I5 n) n a b n 0=_:=s
    have l:(if decide (b.kind=9)=true then CN (CM n) n a b true else CN (CM n) n a b (decide (b.kind=10)))=CN (CM n) n a b true:=by
     rcases k with q | q
     ·rw [Ad q,Ae rfl]
     ·rw [Ad q];exact ite_self _
    have r:((!decide (b.kind=9)) && !decide (b.kind=10))=false:=by
     rcases k with q | q
     ·rw [Ad q];rfl
     ·rw [Ad q,Bool.not_true,Bool.and_false]
    rw [Ae k,l,CN,Ae rfl,E,Ab,r,Af (by decide),j,XU]
    exact ⟨rfl,rfl⟩
   ·have r:((!decide (b.kind=9)) && !decide (b.kind=10))=true:=by
     rw [Ac (fun q=>k (.inl q)),Ac (fun q=>k (.inr q))];rfl
    rw [Af k,Ac (fun q=>k (.inl q)),Af (by decide),Ac (fun q=>k (.inr q)),CN,Af (by decide)]
    refine ⟨rfl,?_⟩
    rfl
theorem Jy (k:Int):∀ (l b:List TF),Fe k b l=0→(l.map fun p=>p.1).Nodup∧∀ p∈l,∀ q∈b,q.1≠p.1
 | [],_,_=>⟨.nil,by simp⟩
 | x::r,b,h=>by
  rw [Fe] at h
  by_cases q:HM k b x=0
  rotate_left
  ·rw [Af q] at h;exact absurd h q
  rw [Ae q] at h
  obtain ⟨f,c⟩:=Jy k r (b++[x]) h
  have d:∀ y∈b,y.1≠x.1:=by
   intro y a e
   unfold HM at q
   by_cases c1:E5 x.2.1=true
   ·rw [Ae c1] at q
    by_cases c2:¬ (1≤x.1∧x.1≤9999)
    ·rw [Ae c2] at q;exact absurd q (by decide)
    rw [Af c2,Ae (List.any_eq_true.2 ⟨y,a,by rw [DL,Ad e];simp⟩)] at q
    exact absurd q (by decide)
   ·rw [Af c1] at q;exact absurd q (by decide)
  refine ⟨List.nodup_cons.2 ⟨fun g=>?_,f⟩,fun p hp y a=>?_⟩
  ·obtain ⟨p,hp,e⟩:=List.mem_map.1 g
   exact c p hp x (by simp) e.symm
  ·rcases List.mem_cons.1 hp with rfl | hp
   ·exact d y a
   ·exact c p hp y (by simp [a])
theorem Je {l:List TF} (h:(l.map fun p=>p.1).Nodup) {p:TF} (hp:p∈l):E6 l p.1=some p:=by
 rw [E6]
 cases c:l.find? (fun x=>decide (x.1=p.1)) with
 | none =>
  rw [List.find?_eq_none] at c
  exact absurd (Ad rfl) (c p hp)
 | some z =>
  have e:=List.mem_of_find?_eq_some c
  have b:z.1=p.1:=of_decide_eq_true (List.find?_some (p:=fun x:TF=>decide (x.1=p.1)) c)
  obtain ⟨i,d,rfl⟩:=List.mem_iff_getElem.1 e
  obtain ⟨j,a,rfl⟩:=List.mem_iff_getElem.1 hp
  rcases Nat.lt_trichotomy i j with w | w | w
  ·exact absurd b (by have:=List.pairwise_iff_getElem.1 h i j (by simpa using d) (by simpa using a) w;simpa using this)
  ·subst w;rfl
  ·exact absurd b.symm (by have:=List.pairwise_iff_getElem.1 h j i (by simpa using a) (by simpa using d) w;simpa using this)
theorem ZhE {l:List TF} {k:Int} {p:TF} (h:E6 l k=some p):p∈l∧p.1=k:=⟨List.mem_of_find?_eq_some h,of_decide_eq_true (List.find?_some (p:=fun x:TF=>decide (x.1=k)) h)⟩
theorem O6 {v:Vl} (i s t l f:Bool) (h:bare i s t l f v=true):(i=false→v.int=0)∧(s=false→v.scale=0)∧(t=false→v.text=⟨#[]⟩)∧(l=false→v.list=[])∧(f=false→v.fields=[]):=by
 simp only [bare,Bool.and_eq_true,Bool.or_eq_true,decide_eq_true_eq,Ei] at h
 obtain ⟨⟨⟨⟨h1,h2⟩,h3⟩,h4⟩,h5⟩:=h
 refine ⟨fun q=>?_,fun q=>?_,fun q=>?_,fun q=>?_,fun q=>?_⟩
 ·subst q;rcases h1 with h | h;cases h;exact h
 ·subst q;rcases h2 with h | h;cases h;exact h
 ·subst q;rcases h3 with h | h;cases h;exact h
 ·subst q;rcases h4 with h | h;cases h;exact List.length_eq_zero_iff.1 h
 ·subst q;rcases h5 with h | h;cases h;exact List.length_eq_zero_iff.1 h
theorem Zbb {v:Vl} {k i s:Int} {t:ByteArray} {l:List Vl} {f:List (ByteArray × Vl)} (h1:k=v.kind) (h2:i=v.int) (h3:s=v.scale) (h4:t=v.text) (h5:l=v.list) (h6:f=v.fields):Vl.mk k i s t l f=v:=by
 subst h1 h2 h3 h4 h5 h6;exact v.eta
theorem RH (f:Ty→Ty→Vl→Option Vl) (a:Ty) (v:Vl) (h:TF→List (ByteArray × Vl)):∀ gs:List TF,(∀ g∈gs,L6 f a v g=some (h g))→Nh f a v gs=some (gs.flatMap h)
 | [],_=>rfl
 | g::r,k=>by
  rw [Nh,k g (List.mem_cons_self ..),Ab,RH f a v h r fun u b=>k u (List.mem_cons_of_mem _ b),List.flatMap_cons];rfl
def Vr (w:Vl) (p:TF):List (ByteArray × Vl):=match CG w p.2.1 with | some x=>[(p.2.1,x)] | none=>[]
theorem ZcR {f:Ty→Ty→Vl→Option Vl} {a b:Ty} {u w:Vl} (na:(a.fields.map fun p=>p.2.1).Nodup) (ws:SS w.fields) (hf:∀ q∈w.fields,(B6 a q.1).isSome=true) (hrec:Nh f b u a.fields=some (a.fields.flatMap (Vr w))):B5 (a.fields.flatMap (Vr w))=w.fields:=by
 obtain ⟨n,r,o⟩:=Sj _ _ _ _ _ hrec
 have i:=na.sublist n
 refine Py _ _ ((HZ _).trans ?_) (OH _ i) ws
 refine (List.perm_ext_iff_of_nodup (List.Pairwise.of_map Prod.fst (fun x y h e=>h (congrArg Prod.fst e)) i) (ws.imp fun {x y} h e=>by rw [e,I0] at h;omega)).2 fun q=>⟨fun d=>?_,fun d=>?_⟩
 ·obtain ⟨p,g,d⟩:=List.mem_flatMap.1 d
  rw [Vr] at d
  cases c:CG w p.2.1 with
  | none=>rw [c] at d;simp at d
  | some x =>
   rw [c] at d
   obtain rfl:q=(p.2.1,x):=by simpa using d
   obtain ⟨z,l,j,m⟩:=KV c
   rw [←j,←m];exact l
 ·have:=hf q d
  cases c:B6 a q.1 with
  | none=>rw [c] at this;cases this
  | some p =>
   obtain ⟨g,k⟩:=En c
   refine List.mem_flatMap.2 ⟨p,g,?_⟩
   rw [Vr,k,P8 ws d]
   simp
theorem RL (x a:Int):NX x a a=some x:=by rw [NX,Ae (Int.le_refl a),show (a-a).toNat=0 by omega];rfl
theorem Wp (f:Vl→Option Vl):∀ l:List Vl,(∀ v∈l,f v=some v)→RB f l=some l
 | [],_=>rfl
 | v::r,k=>by rw [RB,k v (List.mem_cons_self ..),Ab,Wp f r fun u a=>k u (List.mem_cons_of_mem _ a)];rfl
theorem TC:∀ (d:Nat) (a:Ty) (w:Vl),a.Good→IE d a w=true→Sr d a a w=some w
 | 0,a,w,_,h=>by simp [IE] at h
 | d+1,a,w,ga,b=>by
  have l:=ga.own
  obtain ⟨C,_,_,e⟩:=O0 b
  have D:=Zdj (t:=a) (v:=w) (by have:=l.kind;omega) C e
  rw [IE,Af D] at b
  rw [Sr]
  by_cases num:a.kind=2∨a.kind=3
  ·have hx:Oc w.int a=true∧w.scale=a.scale∧w.text=⟨#[]⟩∧w.list=[]∧w.fields=[]:=by
    rcases num with q | q
    ·rw [Ae (.inl q)] at b
     rw [DI,Af (by omega),Ae (by omega)] at e
     obtain ⟨_,i,j,r,k⟩:=O6 _ _ _ _ _ e
     exact ⟨b,by rw [i rfl,l.noscale (by omega)],j rfl,r rfl,k rfl⟩
    ·rw [Af (by omega),Ae q,Bool.and_eq_true,decide_eq_true_eq] at b
     rw [DI,Af (by omega),Af (by omega),Ae (by omega)] at e
     obtain ⟨_,_,j,r,k⟩:=O6 _ _ _ _ _ e
     exact ⟨b.2,b.1,j rfl,r rfl,k rfl⟩
   rw [Ae ⟨num,num⟩,RL,Ab,Ae hx.1]
   exact congrArg some (Zbb C.symm rfl hx.2.1.symm hx.2.2.1.symm hx.2.2.2.1.symm hx.2.2.2.2.symm)
  rw [Af (fun q=>num q.1),Af (fun q=>q rfl)]
  by_cases k67:a.kind=6∨a.kind=7
  ·rw [Ae (by omega)] at b
   rw [Ae k67,Ae b]
  rw [Af k67]
  by_cases k5:a.kind=5
  ·rw [Af (by omega),Af (by omega),Af (by omega),Ae k5] at b
   rw [Ae k5,Ae b]
  rw [Af k5]
  by_cases k4:a.kind=4
  ·rw [Af (by omega),Af (by omega),Ae k4] at b
   rw [Ae k4,Ae b]
  rw [Af k4]
  by_cases k8:a.kind=8
  ·obtain ⟨x,hx⟩:=l.elem k8
   rw [Af (by omega),Af (by omega),Af (by omega),Af (by omega),Ae k8,Bool.and_eq_true,List.all_eq_true] at b
   have same:=Wp (Sr d x x) w.list fun v hv=>by
    have:=b.2 v hv
    rw [hx] at this
    exact TC d x v (GE ga (by rw [hx];simp)) this
   rw [DI,Af (by omega),Af (by omega),Af (by omega),Af (by omega),Af (by omega),Ae (by omega)] at e
   obtain ⟨o,i,j,_,k⟩:=O6 _ _ _ _ _ e
   rw [Ae k8,hx]
   show ((RB (Sr d x x) w.list).bind fun m=>if Oc (w.list.length:Int) a=true then some (Vl.mk 8 0 0 ⟨#[]⟩ m []) else none)=some w
   rw [same,Ab,Ae b.1]
   exact congrArg some (Zbb (by omega) (o rfl).symm (i rfl).symm (j rfl).symm rfl (k rfl).symm)
  rw [Af k8]
  by_cases k9:a.kind=9
  ·have E:=(MG _ _ _ l.apart).1
   have z:=(Jy _ _ _ l.apart).1
   have F:=O2 e (by omega)
   rw [Af (by omega),Af (by omega),Af (by omega),Af (by omega),Af (by omega),Ae k9,Bool.and_eq_true,List.all_eq_true,List.all_eq_true] at b
   have g:=RH (Sr d) a w (Vr w) a.fields fun p y=>by
    have f:=b.1 p y
    rw [L6,Je z y,Vr]
    cases hx:CG w p.2.1 with
    | some x =>
     rw [hx] at f
     simp only [hx,TC d _ x (BD ga y) f];rfl
    | none =>
     rw [hx] at f
     have G:p.2.2.1=2:=of_decide_eq_true f
     simp only [hx]
     rw [VD,Af (by omega),Af (by omega)]
   rw [DI,Af (by omega),Af (by omega),Af (by omega),Af (by omega),Af (by omega),Af (by omega),Ae (by omega),Bool.and_eq_true] at e
   obtain ⟨o,i,j,r,_⟩:=O6 _ _ _ _ _ e.2
   rw [Ae k9,g,Option.map_some,ZcR E F b.2 g]
   exact congrArg some (Zbb (by omega) (o rfl).symm (i rfl).symm (j rfl).symm (r rfl).symm rfl)
  rw [Af k9]
  by_cases k10:a.kind=10
  ·rw [Af (by omega),Af (by omega),Af (by omega),Af (by omega),Af (by omega),Af (by omega),Ae k10] at b
   have z:=(Jy _ _ _ l.apart).1
   cases c:B6 a w.text with
   | none=>rw [c] at b;simp at b
   | some p =>
    cases hl:w.list with
    | nil=>rw [c,hl] at b;simp at b
    | cons x xs =>
     rw [c,hl] at b
     have b:IE d p.2.2.2.1 x=true:=b
     obtain ⟨n,u⟩:=En c
     have one:=Qa e (by omega)
     have s:xs=[]:=by rw [hl] at one;simpa using one
     rw [DI,Af (by omega),Af (by omega),Af (by omega),Af (by omega),Af (by omega),Af (by omega),Af (by omega),Ae (by omega),Bool.and_eq_true] at e
     obtain ⟨o,i,_,_,k⟩:=O6 _ _ _ _ _ e.2
     rw [Ae k10]
     simp only [Je z n,TC d _ x (BD ga n) b,Option.map_some]
     exact congrArg some (Zbb (by omega) (o rfl).symm (i rfl).symm u (by rw [hl,s]) (k rfl).symm)
  ·rw [Af k10]
theorem Ul (a:Ty):YD a a=true:=by simp [YD]
theorem QW:∀ (d:Nat) (a:Ty),a.Good→a.depth≤d→Me d a a=true
 | 0,a,_,h=>by have:=a.depth_eq;omega
 | d+1,a,ga,hd=>by
  have f:=ga.own
  rw [Me]
  by_cases num:a.kind=2∨a.kind=3
  ·obtain ⟨_,_,b⟩:=f.bounds (by omega) (by omega)
   rw [Ae ⟨num,num⟩,Zb2,RL,RL]
   simp [Oc,b]
  rw [Af (fun q=>num q.1),Af (fun q=>q rfl)]
  by_cases k1:a.kind=1
  ·rw [Ae k1]
  rw [Af k1]
  by_cases k4:a.kind=4
  ·rw [Ae k4,Zbw]
   by_cases w:a.words=[]
   ·rw [Af (fun q=>q w),Af (fun q=>q w)];exact Ul a
   ·rw [Ae w,List.all_eq_true]
    intro x e
    rw [JR,Af w,List.any_eq_true]
    exact ⟨x,e,ME x⟩
  rw [Af k4]
  by_cases k8:a.kind=8
  ·obtain ⟨x,e⟩:=f.elem k8
   have i:x∈a.elem:=by rw [e];simp
   have ih:=QW d x (GE ga i) (by have:=Ty.depth_elem i;omega)
   rw [Ae k8,Ul,e,Bool.true_and,Bool.or_eq_true]
   exact .inr ih
  rw [Af k8]
  by_cases k9:a.kind=9
  ·have g:=(Jy _ _ _ f.apart).1
   rw [Ae k9,List.all_eq_true]
   intro p c
   simp only [Je g c,QW d _ (BD ga c) (by have:=Ty.depth_field c;omega),Bool.true_and,Bool.not_eq_true',Bool.and_eq_false_iff,decide_eq_false_iff_not]
   omega
  rw [Af k9]
  by_cases k10:a.kind=10
  ·have g:=(Jy _ _ _ f.apart).1
   rw [Ae k10,List.all_eq_true]
   intro p c
   simp only [Je g c,QW d _ (BD ga c) (by have:=Ty.depth_field c;omega)]
  rw [Af k10];exact Ul a
def D7 (t:Ty) (l:List TF):Ty:=Ty.mk t.kind t.min t.max t.scale t.words t.elem l
theorem Zca {l m:List TF} (h:l.Sublist m):HO l≤HO m∧B9 l≤B9 m∧CC l≤CC m:=by
 induction h with
 | slnil=>exact ⟨Nat.le_refl _,Nat.le_refl _,Nat.le_refl _⟩
 | cons a h ih =>
  obtain ⟨a1,a2,a3,a4,a5⟩:=a
  simp only [HO,B9,CC]
  omega
 | cons_cons a h ih =>
  obtain ⟨a1,a2,a3,a4,a5⟩:=a
  simp only [HO,B9,CC]
  omega
theorem Zm (t:Ty) {l:List TF} (h:l.Sublist t.fields):(D7 t l).bulk≤t.bulk∧(D7 t l).size≤t.size∧(D7 t l).depth≤t.depth:=by
 obtain ⟨j,g,i⟩:=Zca h
 cases t with
 | mk a b c d w e f =>
  simp only [Ty.fields] at j g i
  simp only [D7,Ty.bulk,Ty.size,Ty.depth,Ty.kind,Ty.min,Ty.max,Ty.scale,Ty.words,Ty.elem]
  omega
theorem Zaf {k:Int} {b b':List TF} {x:TF} (h:HM k b x=0) (hb:∀ q∈b',q∈b):HM k b' x=0:=by
 rw [HM] at h ⊢
 by_cases c1:E5 x.2.1=true
 rotate_left
 ·rw [Af c1] at h;exact absurd h (by decide)
 rw [Ae c1] at h ⊢
 by_cases c2:¬ (1≤x.1∧x.1≤9999)
 ·rw [Ae c2] at h;exact absurd h (by decide)
 rw [Af c2] at h ⊢
 by_cases c3:(b.any fun q=>DL q x)=true
 ·rw [Ae c3] at h;exact absurd h (by decide)
 rw [Af c3] at h
 rw [Af (fun q=>c3 (by obtain ⟨y,a,e⟩:=List.any_eq_true.1 q;exact List.any_eq_true.2 ⟨y,hb y a,e⟩))]
 exact h
theorem ZI (k:Int) {l m:List TF} (h:l.Sublist m):∀ (b b':List TF),(∀ q∈b',q∈b)→Fe k b m=0→Fe k b' l=0:=by
 induction h with
 | slnil=>intro b b' _ _;rfl
 | @cons l m a h ih =>
  intro b b' e d
  rw [Fe] at d
  by_cases c:HM k b a=0
  ·rw [Ae c] at d
   exact ih (b++[a]) b' (fun q hq=>List.mem_append.2 (.inl (e q hq))) d
  ·rw [Af c] at d;exact absurd d c
 | @cons_cons l m a h ih =>
  intro b b' e d
  rw [Fe] at d ⊢
  by_cases c:HM k b a=0
  ·rw [Ae c] at d
   rw [Ae (Zaf c e)]
   refine ih (b++[a]) (b'++[a]) (fun q hq=>?_) d
   rcases List.mem_append.1 hq with hq | hq
   ·exact List.mem_append.2 (.inl (e q hq))
   ·exact List.mem_append.2 (.inr hq)
  ·rw [Af c] at d;exact absurd d c
theorem Zce {t:Ty} {l:List TF} (k9:t.kind=9) (h:Om t=0) (hl:l.Sublist t.fields):Om (D7 t l)=0:=by
 have b:A7 (D7 t l)=A7 t:=by
  show _=_
  unfold A7
  show ((((((!(decide (2≤t.kind)&&decide (t.kind≤8)))&&((!(decide (t.min=0)))||(!(decide (t.max=0)))))||((!(decide (t.kind=3)))&&(!(decide (t.scale=0)))))||((!(decide (t.kind=4)))&&(decide (0<(t.words.length:Int)))))||((!(decide (t.kind=8)))&&(decide (0<(t.elem.length:Int)))))||(((!(decide (t.kind=9)))&&(!(decide (t.kind=10))))&&(decide (0<(l.length:Int)))))=_
  rw [Ad k9]
  rfl
 have a:=hl.length_le
 rw [Om] at h ⊢
 show (if t.kind<1∨10<t.kind then (11:Int) else if A7 (D7 t l)=true then 3 else if t.kind=4∧0<t.words.length then M6 (D7 t l) else if ((2≤t.kind∧t.kind≤8)∧CJ (D7 t l) (AL t.kind).1 (AL t.kind).2=false)∨¬ (0≤t.scale∧t.scale≤12) then 2 else if (t.kind=8∧t.elem.length=0)∨(t.kind=10∧l.length=0) then 4 else if 1<t.elem.length then 3 else if 64<l.length then 9 else Fe t.kind [] l)=0
 rw [b]
 by_cases c1:t.kind<1∨10<t.kind
 ·omega
 rw [Af c1] at h ⊢
 by_cases c2:A7 t=true
 ·rw [Ae c2] at h;exact absurd h (by decide)
 rw [Af c2] at h ⊢
 rw [Af (show ¬ (t.kind=4∧0<t.words.length) by omega)] at h ⊢
 by_cases c4:0≤t.scale∧t.scale≤12
 rotate_left
 ·rw [Ae (.inr c4)] at h;exact absurd h (by decide)
 rw [Af (by rintro (q | q);omega;exact q c4)] at h ⊢
 rw [Af (show ¬ ((t.kind=8∧t.elem.length=0)∨(t.kind=10∧t.fields.length=0)) by omega)] at h
 rw [Af (show ¬ ((t.kind=8∧t.elem.length=0)∨(t.kind=10∧l.length=0)) by omega)]
 by_cases c6:1<t.elem.length
 ·rw [Ae c6] at h;exact absurd h (by decide)
 rw [Af c6] at h ⊢
 by_cases c7:64<t.fields.length
 ·rw [Ae c7] at h;exact absurd h (by decide)
 rw [Af c7] at h
 rw [Af (by omega)]
 exact ZI _ hl [] [] (fun _ h=>h) h
theorem U4 {t:Ty} {l:List TF} {D:Nat} (k9:t.kind=9) (h:t.Fine D) (hl:l.Sublist t.fields):(D7 t l).Fine D:=by
 cases h with
 | mk d _ own he hf hd=>exact .mk d (D7 t l) (Zce k9 own hl) he (fun p a=>hf p (hl.subset a)) (fun p a=>hd p (hl.subset a))
theorem ZhS {f:TF→Int} {l m:List TF} (h:l.Sublist m) (h0:∀ p∈m,0≤f p):(l.map f).sum≤(m.map f).sum:=by
 induction h with
 | slnil=>exact Int.le_refl _
 | cons a h ih =>
  rw [List.map_cons,List.sum_cons]
  have:=h0 a (List.mem_cons_self ..)
  have:=ih fun p b=>h0 p (List.mem_cons_of_mem _ b)
  omega
 | cons_cons a h ih =>
  rw [List.map_cons,List.sum_cons,List.map_cons,List.sum_cons]
  have:=ih fun p b=>h0 p (List.mem_cons_of_mem _ b)
  omega
theorem max_le {f:TF→Int} {l m:List TF} (h:l.Sublist m):∀ a b:Int,a≤b→l.foldl (fun a p=>mxL a (f p)) a≤m.foldl (fun a p=>mxL a (f p)) b:=by
 induction h with
 | slnil=>intro a b h;exact h
 | cons x h ih =>
  intro a b h
  rw [List.foldl_cons]
  exact ih _ _ (by unfold mxL;split<;>omega)
 | cons_cons x h ih =>
  intro a b h
  rw [List.foldl_cons,List.foldl_cons]
  exact ih _ _ (by unfold mxL;split<;>split<;>omega)
theorem Yw (n:Nat) (t:Ty) (l:List TF) (hn:3000000≤n) (ht:t.small) (hs:(D7 t l).small) (k9:t.kind=9) (hl:l.Sublist t.fields) (h0:EG n t=some 0) (hF:t.Fine 8):EG n (D7 t l)=some 0:=by
 have b:=U4 k9 hF hl
 have i:=ht.1
 have j:=hs.1
 obtain ⟨m,rfl⟩:∃ m,n=m+2:=⟨n-2,by omega⟩
 have e:=NK (m+2) 8 t 1 4096 (by omega) ht hF (by decide) (by decide) (by omega) (by decide)
 have h:=NK (m+2) 8 (D7 t l) 1 4096 (by omega) hs b (by decide) (by decide) (by omega) (by decide)
 obtain ⟨a1,a2⟩:=ZcK m t (by omega) ht hF.good k9
 obtain ⟨g,_⟩:=ZcK m (D7 t l) (by omega) hs b.good k9
 have g1:=Zdn (m+1) t (by omega) ht hF.good k9 _ a1
 have g2:=Zdn (m+1) (D7 t l) (by omega) hs b.good k9 _ g
 rw [EG,e,Ab,Af (by simp),g1,Ab] at h0
 have le:YG (1+((D7 t l).fields.map (WC (Ax m))).sum)≤YG (1+(t.fields.map (WC (Ax m))).sum):=by
  have:=ZhS (f:=WC (Ax m)) hl a2
  have:((D7 t l).fields.map (WC (Ax m))).sum≤(t.fields.map (WC (Ax m))).sum:=this
  unfold YG
  split<;>split<;>omega
 have d:=max_le (f:=fun p=>(AZ (m+1) p.2.2.2.1).getD 0) hl _ _ le
 have d:(D7 t l).fields.foldl (fun a p=>mxL a ((AZ (m+1) p.2.2.2.1).getD 0)) (YG (1+((D7 t l).fields.map (WC (Ax m))).sum))≤_:=d
 rw [EG,h,Ab,Af (by simp),g2,Ab]
 by_cases c:4096<t.fields.foldl (fun a p=>mxL a ((AZ (m+1) p.2.2.2.1).getD 0)) (YG (1+(t.fields.map (WC (Ax m))).sum))
 ·rw [Ad c,Ae rfl] at h0;cases h0
 ·rw [Ac (fun q=>c (Int.lt_of_lt_of_le q d)),Af (by decide)]
theorem YN {α:Type} (l:List α) (i:Nat):(l.take i++l.drop (i+1)).Sublist l:=by
 have h:(l.take i++l.drop (i+1)).Sublist (l.take i++l.drop i):=(List.Sublist.refl _).append (List.drop_sublist_drop_left _ (Nat.le_succ i))
 rwa [List.take_append_drop] at h
theorem Yd {β:Type} (f:TF→β) {l:List TF} (hn:(l.map f).Nodup) {i:Nat} (hi:i<l.length) (p:TF):p∈l.take i++l.drop (i+1)↔p∈l∧f p≠f l[i]:=by
 have e:l.take i++l[i]::l.drop (i+1)=l:=by rw [←List.drop_eq_getElem_cons hi,List.take_append_drop]
 have a:((l.take i++l[i]::l.drop (i+1)).map f).Nodup:=by rw [e];exact hn
 have g:p∈l↔p∈l.take i++l[i]::l.drop (i+1):=by rw [e]
 rw [List.map_append,List.map_cons,List.nodup_append] at a
 obtain ⟨_,d,c⟩:=a
 constructor
 ·intro hp
  rcases List.mem_append.1 hp with hp | hp
  ·exact ⟨List.mem_of_mem_take hp,fun q=>c _ (List.mem_map_of_mem hp) _ (List.mem_cons_self ..) q⟩
  ·exact ⟨List.mem_of_mem_drop hp,fun q=>(List.nodup_cons.1 d).1 (q▸List.mem_map_of_mem hp)⟩
 ·rintro ⟨hp,b⟩
  rcases List.mem_append.1 (g.1 hp) with hp | hp
  ·exact List.mem_append.2 (.inl hp)
  ·rcases List.mem_cons.1 hp with q | hp
   ·exact absurd (congrArg f q) b
   ·exact List.mem_append.2 (.inr hp)
theorem Zdb {d:Nat} {t:Ty} {l:List TF} (k9:t.kind=9) (g:t.Good) (hl:l.Sublist t.fields) (hd:t.depth≤d+1):Me (d+1) t (D7 t l)=true:=by
 have b:=g.own
 have c:=(Jy _ _ _ b.apart).1
 have e:(D7 t l).kind=9:=k9
 rw [Me,Af (by omega),Af (show ¬ t.kind≠(D7 t l).kind by omega),Af (by omega),Af (by omega),Af (by omega),Ae e,List.all_eq_true]
 intro p a
 have a:=hl.subset (show p∈l from a)
 simp only [Je c a,QW d _ (BD g a) (by have:=Ty.depth_field a;omega),Bool.true_and,Bool.not_eq_true',Bool.and_eq_false_iff,decide_eq_false_iff_not]
 omega
theorem ZbG {d:Nat} {t:Ty} {i:Nat} (k9:t.kind=9) (g:t.Good) (hi:i<t.fields.length):N3 (d+1) t (D7 t (t.fields.take i++t.fields.drop (i+1)))=false:=by
 have b:=g.own
 have j:=(Jy _ _ _ b.apart).1
 have h:(D7 t (t.fields.take i++t.fields.drop (i+1))).kind=9:=k9
 rw [N3,Bool.and_eq_false_iff,Af (by omega),Ae (.inl h)]
 right
 rw [←Bool.not_eq_true,List.all_eq_true]
 intro q
 have:=q _ (List.getElem_mem hi)
 have e:E6 (D7 t (t.fields.take i++t.fields.drop (i+1))).fields t.fields[i].1=none:=by
  cases c:E6 (D7 t (t.fields.take i++t.fields.drop (i+1))).fields t.fields[i].1 with
  | none=>rfl
  | some p =>
   obtain ⟨f,a⟩:=ZhE c
   exact absurd a ((Yd (fun p=>p.1) j hi p).1 f).2
 rw [Zci,e] at this
 cases this
theorem ZaW {d:Nat} {t:Ty} {i:Nat} {w:Vl} (k9:t.kind=9) (g:t.Good) (hi:i<t.fields.length) (hf:IE (d+1) t w=true) :
  Sr (d+1) t (D7 t (t.fields.take i++t.fields.drop (i+1))) w=some (HJ w (w.fields.filter fun q => !Cb q.1 t.fields[i].2.1)):=by
 have E:=g.own
 obtain ⟨H,_,_,f⟩:=O0 hf
 have J:=Zdj (t:=t) (v:=w) (by omega) H f
 rw [IE,Af J,Af (by omega),Af (by omega),Af (by omega),Af (by omega),Af (by omega),Ae k9,Bool.and_eq_true,List.all_eq_true,List.all_eq_true] at hf
 have D:=(MG _ _ _ E.apart).1
 have ma:=(Jy _ _ _ E.apart).1
 have G:=O2 f (by omega)
 have k:=YN t.fields i
 have n:=Yd (fun p=>p.2.1) D hi
 have O:(D7 t (t.fields.take i++t.fields.drop (i+1))).kind=9:=k9
 have j:=RH (Sr d) t w (Vr w) (t.fields.take i++t.fields.drop (i+1)) fun p u=>by
  have m:=k.subset u
  have b:=hf.1 p m
  rw [L6,Je ma m,Vr]
  cases hx:CG w p.2.1 with
  | some x =>
   rw [hx] at b
   simp only [hx,TC d _ x (BD g m) b];rfl
  | none =>
   rw [hx] at b
   have p2:p.2.2.1=2:=of_decide_eq_true b
   simp only [hx]
   rw [VD,Af (by omega),Af (by omega)]
 obtain ⟨V,t2,t3⟩:=Sj _ _ _ _ _ j
 have F:=(D.sublist (k.map _)).sublist V
 have s:B5 ((t.fields.take i++t.fields.drop (i+1)).flatMap (Vr w))=w.fields.filter fun q => !Cb q.1 t.fields[i].2.1:=by
  have o:SS (w.fields.filter fun q => !Cb q.1 t.fields[i].2.1):=List.Pairwise.sublist List.filter_sublist G
  refine Py _ _ ((HZ _).trans ?_) (OH _ F) o
  refine (List.perm_ext_iff_of_nodup (List.Pairwise.of_map Prod.fst (fun x y h e=>h (congrArg Prod.fst e)) F) (o.imp fun {x y} h e=>by rw [e,I0] at h;omega)).2 fun q=>⟨fun a=>?_,fun a=>?_⟩
  ·obtain ⟨p,m,a⟩:=List.mem_flatMap.1 a
   rw [Vr] at a
   cases c:CG w p.2.1 with
   | none=>rw [c] at a;simp at a
   | some x =>
    rw [c] at a
    obtain rfl:q=(p.2.1,x):=by simpa using a
    obtain ⟨z,Z,Y,Q⟩:=KV c
    refine List.mem_filter.2 ⟨by rw [←Y,←Q];exact Z,?_⟩
    cases r:Cb p.2.1 t.fields[i].2.1 with
    | false=>rfl
    | true=>exact absurd ((Ei _ _).1 r) ((n p).1 m).2
  ·obtain ⟨a,hne⟩:=List.mem_filter.1 a
   have:=hf.2 q a
   cases c:B6 t q.1 with
   | none=>rw [c] at this;cases this
   | some p =>
    obtain ⟨m,C⟩:=En c
    refine List.mem_flatMap.2 ⟨p,(n p).2 ⟨m,fun e=>?_⟩,?_⟩
    ·have e:p.2.1=t.fields[i].2.1:=e
     rw [←e,C,ME] at hne
     cases hne
    ·rw [Vr,C,P8 G a]
     simp
 rw [DI,Af (by omega),Af (by omega),Af (by omega),Af (by omega),Af (by omega),Af (by omega),Ae (by omega),Bool.and_eq_true] at f
 obtain ⟨K,U,h3,N,_⟩:=O6 _ _ _ _ _ f.2
 rw [Sr,Af (by omega),Af (show ¬ t.kind≠(D7 t (t.fields.take i++t.fields.drop (i+1))).kind by omega),Af (by omega),Af (by omega),Af (by omega),Af (by omega),Ae O]
 show ((Nh (Sr d) t w (t.fields.take i++t.fields.drop (i+1))).map fun l=>Vl.mk 9 0 0 ⟨#[]⟩ [] (B5 l))=_
 rw [j,Option.map_some,s,HJ,K rfl,U rfl,h3 rfl,N rfl,show w.kind=9 by omega]
def Kx (n:Nat) (b:Vl) (b2_k23_4:List Vl) (b2_k23_5:List (ByteArray × Vl)):Option Vl :=
 some (Vl.mk b.kind b.int b.scale b.text b2_k23_4 b2_k23_5)
def Gp (n:Nat) (h:Vl):Nat→Int→(List Vl)→(List (ByteArray × Vl))→Option Vl
 | 0,_,_,_=>none
 | m+1,b,b2_l26_4,b2_l26_5 =>
  if decide (b<(h.fields.length:Int)) then
   (B7 h.fields b).bind fun g =>
   (Bn n g.2).bind fun q =>
   if (b2_l26_5.length+1)*104≤140737488355328∧b2_l26_5.length+1≤4611686018427387904 then
    if BQ (b+1) then
     (Gp n h m) (b+1) b2_l26_4 (b2_l26_5++[(g.1,q)])
    else none
   else none
  else
   Kx n h b2_l26_4 b2_l26_5
def LM (n:Nat) (b:Vl) (b2_k5_4:List Vl) (b2_k5_5:List (ByteArray × Vl)):Option Vl :=
 Gp n b n 0 b2_k5_4 b2_k5_5
def GW (n:Nat) (g:Vl):Nat→Int→(List Vl)→(List (ByteArray × Vl))→Option Vl
 | 0,_,_,_=>none
 | m+1,b,b2_l8_4,b2_l8_5 =>
  if decide (b<(g.list.length:Int)) then
   (B7 g.list b).bind fun q =>
   (Bn n q).bind fun h =>
   if (b2_l8_4.length+1)*88≤140737488355328∧b2_l8_4.length+1≤4611686018427387904 then
    if BQ (b+1) then
     (GW n g m) (b+1) (b2_l8_4++([h])) b2_l8_5
    else none
   else none
  else
   LM n g b2_l8_4 b2_l8_5
def KZ (n:Nat) (b:Vl):Option Vl :=
 GW n b n 0 ([]) ([])
theorem YX (w0:World) (n:Nat) (B:List (List AV)) (Rw:List RowA) (L:List LoopA) (a0:Vl) (r:Vl) (h:KZ n a0=some r) :
  ACalls Tryz.prog w0 66 [.agg (a0.cs)] ⟨B,Rw,L⟩ fun x st=>∃ (o0:VO) (rows:List RowA),x = .agg ([.val (.int .i64 r.kind),.val (.int .i64 r.int),.val (.int .i64 r.scale),.val (.string r.text),.list (r.list.map Bo) .none,J5 o0 r.fields.length])∧st=⟨B,rows,L⟩∧Owns Rw rows [] .none [(o0,7,(r.fields).flatMap fun x=>(BM x).cells)]:=by
 rw [KZ] at h
 refine ACalls.finV (UG [true,true,true,true,true,false] (rs:=[.cell 2 46]) Tryz.func66 rfl rfl Tryz.ntmps66 (A1 Tryz.func66 rfl (by decide)) (Nat.le_of_ble_eq_true rfl) ?_)
 intro M0 W0 hN J N D hu
 dsimp only at hN J N D hu
 simp only [Au]
 have z:=Owns.none Rw
 have hs:=Yc
 refine rg [1,2] hs ?_
 refine rg [1,2,3] hs ?_
 have hs:=Aa (Vl.cs_eqs a0) hs
 refine rg [1,2,3] hs ?_
 refine Aw (fun e st=>∃ (l:List Vl) (k:List (ByteArray × Vl)) (o:Ev.Own) (t:VO) (Xk5:List (List AV)) (Rk5:List RowA),e=[(1,true,.box B.length 0),(2,true,.box (B.length+1) 0),(3,true,.box (B.length+2) 0)]∧st=⟨B++([a0.cs,[.val (.int .i64 0),.val (.int .i64 0),.val (.int .i64 0),.val (.string ((⟨#[]⟩:ByteArray))),.list ([]) .full,.list ([]) .full],[.val (.int .i64 a0.kind),.val (.int .i64 a0.int),.val (.int .i64 a0.scale),.val (.string a0.text),.list (l.map Bo) o,J5 t k.length]]++Xk5),Rk5,L⟩∧Owns Rw Rk5 [(6,l.length,o)] .none [(t,7,k.flatMap fun x=>(BM x).cells)]∧LM n a0 l k=some r) ?_ ?_
 ·intro K6 au
  refine rg [1,2,3,12,13,14] hs ?_
  apply Ak
  refine NI (B.length+2) 5 (by simp only [HQ,Gw,IG,Hw];rfl) rfl ?_;simp +decide only [go_sem,Nat.reduceAdd,List.set_cons_zero,List.set_cons_succ]
  have z:=z.nilV 7
  refine AC (fun m e st=>∃ (F:Int) (c:List Vl) (g:List (ByteArray × Vl)) (u:Ev.Own) (i:VO) (Xl8:List (List AV)) (Rl8:List RowA),e=[(1,true,.box B.length 0),(2,true,.box (B.length+1) 0),(3,true,.box (B.length+2) 0),(12,true,.list (a0.list.map Bo) .none),(13,true,.val (.int .i64 (a0.list.length:Int))),(14,true,.val (.int .i64 F))]∧st=⟨B++([a0.cs,[.val (.int .i64 0),.val (.int .i64 0),.val (.int .i64 0),.val (.string ((⟨#[]⟩:ByteArray))),.list ([]) .full,.list ([]) .full],[.val (.int .i64 a0.kind),.val (.int .i64 a0.int),.val (.int .i64 a0.scale),.val (.string a0.text),.list (c.map Bo) u,J5 i g.length]]++Xl8),Rl8,L⟩∧Owns Rw Rl8 [(6,c.length,u)] .none [(i,7,g.flatMap fun x=>(BM x).cells)]∧GW n a0 m F c g=some r) n ⟨0,([]),([]),.full,.nil,([]),Rw,ef hs,ef hs,Owns.eqV (Owns.of_eq ((z).full 6 0) EA) Yo,h⟩ ?_
  rintro ml8 e st ⟨F,c,g,u,i,Xl8,Rl8,rfl,rfl,z,h⟩ Ul8 Vl8
  cases ml8 with
  | zero=>cases h
  | succ ml8 =>
  rw [GW] at h
  have hU:=z.unders
  simp only [List.mem_cons,List.not_mem_nil,or_false,forall_eq_or_imp,forall_eq] at hU
  have G:=z.underV
  simp only [List.mem_cons,List.not_mem_nil,or_false,forall_eq_or_imp,forall_eq] at G
  refine AM hN J N rfl D z ow ow ?_ (vu @J2)
  refine rg [1,2,3,12,13,14,15] hs ?_
  apply Ah;intro K11 U
  refine AN h hs (fun hs h=>?_) (fun hs h=>?_)
  rotate_left
  ·refine sx [1,2,3] hs au ?_
   exact ⟨c,g,u,i,([]),Rl8,ef hs,ef hs,Owns.eqV (Owns.of_eq (z) EA) Yo,h⟩
  refine sk [1,2,3,12,13,14] hs U ?_
  clear U
  apply Ah;intro K13 Y
  apply Ak
  obtain ⟨ao,ai,h⟩:=bind_some h
  obtain ⟨ar,aw,ae⟩:=AA ai
  have ah:=AB (f:=Bo) ae
  have hs:=Aa ah hs
  refine rg [1,2,3,5,12,13,14] hs ?_
  obtain ⟨av,ap,h⟩:=bind_some h
  obtain ⟨aa,h⟩:=Aj h
  obtain ⟨az,O,z,E⟩:=z.append (P:=Tryz.prog) RY (by rw [MR];rfl) (by decide) 1 aa.1 aa.2
  replace E:=fun (ys:List AV) B L o2=>E (c.map Bo) ys B L o2 EA
  replace E:=fun (y:AV) B L o2=>E [y] B L o2 EA ev
  try simp only [List.mem_singleton,List.mem_cons,List.not_mem_nil,or_false,forall_eq_or_imp,forall_eq,List.map_append,List.map_cons,List.map_nil,FP,FN,Fz,FB,FK,Fa,Ea,Eb,FA,Db,Da,Ed,Ek,Ef] at E
  have hs:=Aa E hs
  refine dk 5 2 1 [1,2,3,12,13,14] hs HH ?_
  refine Ai _ (Fb w0 n _ _ _ ao _ ap) (hv hs) ?_
  refine dn hs Y ?_
  clear Y
  obtain ⟨a2,h⟩:=Aj h
  refine rl [1,2,3,12,13,14] hs (fun e s=>Vl8 ml8 e s (Nat.lt_succ_self _)) ?_
  exact ⟨(F+1),(c++([av])),g,az,i,([ao.cs]),O,ef hs,ef hs,Owns.eqV (Owns.of_eq (z) EA) Yo,h⟩
 ·clear h;rintro e st ⟨l,k,o,t,Xk5,Rk5,rfl,rfl,z,h⟩
  rw [LM] at h
  have hU:=z.unders
  simp only [List.mem_cons,List.not_mem_nil,or_false,forall_eq_or_imp,forall_eq] at hU
  have G:=z.underV
  simp only [List.mem_cons,List.not_mem_nil,or_false,forall_eq_or_imp,forall_eq] at G
  refine AM hN J N rfl D z ow ow ?_ (vu @J2)
  refine Aw (fun e st=>∃ (p:List Vl) (q:List (ByteArray × Vl)) (v:Ev.Own) (w:VO) (Xk23:List (List AV)) (Rk23:List RowA),e=[(2,true,.box (B.length+1) 0),(3,true,.box (B.length+2) 0)]∧st=⟨B++([a0.cs,[.val (.int .i64 0),.val (.int .i64 0),.val (.int .i64 0),.val (.string ((⟨#[]⟩:ByteArray))),.list ([]) .full,.list ([]) .full],[.val (.int .i64 a0.kind),.val (.int .i64 a0.int),.val (.int .i64 a0.scale),.val (.string a0.text),.list (p.map Bo) v,J5 w q.length]]++Xk23),Rk23,L⟩∧Owns Rw Rk23 [(6,p.length,v)] .none [(w,7,q.flatMap fun x=>(BM x).cells)]∧Kx n a0 p q=some r) ?_ ?_
  ·intro K24 ak
   refine rg [2,3,27,28,29] hs ?_
   apply Ak
   refine AC (fun m e st=>∃ (C:Int) (b:List Vl) (a:List (ByteArray × Vl)) (d:Ev.Own) (j:VO) (Xl26:List (List AV)) (Rl26:List RowA),e=[(2,true,.box (B.length+1) 0),(3,true,.box (B.length+2) 0),(27,true,.list (a0.fields.map BM) .none),(28,true,.val (.int .i64 (a0.fields.length:Int))),(29,true,.val (.int .i64 C))]∧st=⟨B++([a0.cs,[.val (.int .i64 0),.val (.int .i64 0),.val (.int .i64 0),.val (.string ((⟨#[]⟩:ByteArray))),.list ([]) .full,.list ([]) .full],[.val (.int .i64 a0.kind),.val (.int .i64 a0.int),.val (.int .i64 a0.scale),.val (.string a0.text),.list (b.map Bo) d,J5 j a.length]]++Xl26),Rl26,L⟩∧Owns Rw Rl26 [(6,b.length,d)] .none [(j,7,a.flatMap fun x=>(BM x).cells)]∧Gp n a0 m C b a=some r) n ⟨0,l,k,o,t,([]),Rk5,ef hs,ef hs,Owns.eqV (Owns.of_eq (z) EA) Yo,h⟩ ?_
   rintro ml26 e st ⟨C,b,a,d,j,Xl26,Rl26,rfl,rfl,z,h⟩ Ul26 Vl26
   cases ml26 with
   | zero=>cases h
   | succ ml26 =>
   rw [Gp] at h
   have hU:=z.unders
   simp only [List.mem_cons,List.not_mem_nil,or_false,forall_eq_or_imp,forall_eq] at hU
   have G:=z.underV
   simp only [List.mem_cons,List.not_mem_nil,or_false,forall_eq_or_imp,forall_eq] at G
   refine AM hN J N rfl D z ow ow ?_ (vu @J2)
   refine rg [2,3,27,28,29,30] hs ?_
   apply Ah;intro K28 V
   refine AN h hs (fun hs h=>?_) (fun hs h=>?_)
   rotate_left
   ·refine sx [2,3] hs ak ?_
    exact ⟨b,a,d,j,([]),Rl26,ef hs,ef hs,Owns.eqV (Owns.of_eq (z) EA) Yo,h⟩
   refine sk [2,3,27,28,29] hs V ?_
   clear V
   apply Ah;intro K30 ab
   apply Ak
   obtain ⟨H,am,h⟩:=bind_some h
   obtain ⟨ax,aq,ad⟩:=AA am
   have ag:=AB (f:=BM) ad
   have hs:=Aa ag hs
   refine rg [2,3,7,27,28,29] hs ?_
   obtain ⟨af,aj,h⟩:=bind_some h
   obtain ⟨Z,h⟩:=Aj h
   obtain ⟨ay,Q,z,K⟩:=z.appendV (P:=Tryz.prog) (n:=a.length) (m:=1) OW (by rw [JD];rfl) (by decide) ((Hg (f:=BM) (sz:=7) (fun _=>by simp +decide only [go_sem]) _)) (by decide) Z.1 Z.2 [BM ((H.1,af))] rfl ((a++[(H.1,af)]).flatMap fun x=>(BM x).cells) (by simp only [List.flatMap_append,List.flatMap_cons,List.flatMap_nil,List.append_nil,List.nil_append,VA])
   simp only [List.mem_singleton,forall_eq,FP,FN,Fz,FB,FK,Fa,Ea,Eb,FA,Db,Da,Ed,Ek,Ef] at K
   have hs:=Aa K hs
   refine dk 9 2 1 [2,3,27,28,29] hs HH ?_
   refine Ai _ (Fb w0 n _ _ _ H.2 _ aj) (hv hs) ?_
   refine dn hs ab ?_
   clear ab
   obtain ⟨a1,h⟩:=Aj h
   refine rl [2,3,27,28,29] hs (fun e s=>Vl26 ml26 e s (Nat.lt_succ_self _)) ?_
   exact ⟨(C+1),b,(a++[(H.1,af)]),d,ay,([.val (.string H.1)::(H.2.cs)]),Q,ef hs,ef hs,Owns.eqV (Owns.of_eq (z) EA) Yo,h⟩
  ·clear h;rintro e st ⟨p,q,v,w,Xk23,Rk23,rfl,rfl,z,h⟩
   rw [Kx] at h
   have hU:=z.unders
   simp only [List.mem_cons,List.not_mem_nil,or_false,forall_eq_or_imp,forall_eq] at hU
   have G:=z.underV
   simp only [List.mem_cons,List.not_mem_nil,or_false,forall_eq_or_imp,forall_eq] at G
   refine AM hN J N rfl D z ow ow ?_ (vu @J2)
   refine rg [2] hs ?_
   apply A2;simp +decide only [go_sem,Nat.reduceAdd,Vl.cs_eqs a0]
   have hgt:=Option.some.inj h;subst hgt
   have G:=z.underV
   simp only [List.mem_cons,List.not_mem_nil,or_false,forall_eq_or_imp,forall_eq] at G
   refine ZdJ z D rfl (by (simp +decide only [go_sem,Nat.reduceAdd,Vl.cs_eqs a0])<;>(try (repeat' apply Aa))<;>first | omega | assumption) (vu @J2) ⟨_,_,?_,rfl,z.sub (List.nil_sublist _)⟩
   first | rfl | (simp +decide only [go_sem,Nat.reduceAdd,Vl.cs_eqs a0];done) | (simp +decide only [go_sem,Nat.reduceAdd,Vl.cs,Ty.cs,Vl.cs_eqs a0];done)
theorem ZaU (n:Nat) (v:Vl) (hs:v.fields.length≤1000000000) (hr:∀ p∈v.fields,Bn n p.2=some p.2) (b:List Vl):∀ (k m i:Nat),i+k=v.fields.length→k<m→Gp n v m i b (v.fields.take i)=some (Vl.mk v.kind v.int v.scale v.text b v.fields)
 | k,0,i,_,h=>absurd h (Nat.not_lt_zero _)
 | 0,m+1,i,hi,_=>by
  rw [Gp,As,Ac (by omega)]
  simp only [Bool.false_eq_true,if_false,Kx]
  rw [List.take_of_length_le (by omega)]
 | k+1,m+1,i,hi,hm=>by
  have a:i<v.fields.length:=by omega
  rw [Gp,As,Ad a]
  simp only [if_true,Az a,Ab,hr _ (List.getElem_mem a)]
  rw [Ae (by rw [List.length_take];omega),Ae (Av (by omega))]
  have e:v.fields.take i++[(v.fields[i].1,v.fields[i].2)]=v.fields.take (i+1):=by rw [List.take_succ_eq_append_getElem a]
  rw [e]
  exact ZaU n v hs hr b k m (i+1) (by omega) (by omega)
theorem Zc4 (n:Nat) (v:Vl) (hs:v.fields.length≤1000000000∧v.list.length≤1000000000) (hn:v.fields.length<n) (hr:(∀ x∈v.list,Bn n x=some x)∧∀ p∈v.fields,Bn n p.2=some p.2):∀ (k m i:Nat),i+k=v.list.length→k<m→GW n v m i (v.list.take i) []=some v
 | k,0,i,_,h=>absurd h (Nat.not_lt_zero _)
 | 0,m+1,i,hi,_=>by
  rw [GW,As,Ac (by omega)]
  simp only [Bool.false_eq_true,if_false,LM]
  rw [List.take_of_length_le (by omega)]
  have:=ZaU n v hs.1 hr.2 v.list v.fields.length n 0 (by omega) hn
  rw [List.take_zero] at this
  exact this.trans (by rw [Vl.eta])
 | k+1,m+1,i,hi,hm=>by
  have a:i<v.list.length:=by omega
  rw [GW,As,Ad a]
  simp only [if_true,Az a,Ab,hr.1 _ (List.getElem_mem a)]
  rw [Ae (by rw [List.length_take];omega),Ae (Av (by omega))]
  have e:v.list.take i++[v.list[i]]=v.list.take (i+1):=by rw [List.take_succ_eq_append_getElem a]
  rw [e]
  exact Zc4 n v hs hn hr k m (i+1) (by omega) (by omega)
def JC (n:Nat) (h:Vl) (q:ByteArray):Option (Vl × Int) :=
 (Ja n h q).bind fun g =>
 if !(decide (h.kind=9)) then
  some ((Vl.mk 0 0 0 ((⟨#[]⟩:ByteArray)) ([]) ([]),11))
 else
  if decide (g<0) then
   some ((Vl.mk 0 0 0 ((⟨#[]⟩:ByteArray)) ([]) ([]),8))
  else
   (KZ n h).bind fun b =>
   if BQ (g+1) then
    if 0≤g∧g<(b.fields.length:Int) then
     some ((Vl.mk b.kind b.int b.scale b.text b.list (PT b.fields g),0))
    else none
   else none
theorem XY (w0:World) (n:Nat) (B:List (List AV)) (Rw:List RowA) (L:List LoopA) (a0:Vl) (a1:ByteArray) (r:Vl × Int) (h:JC n a0 a1=some r) :
  ACalls Tryz.prog w0 43 [.agg (a0.cs),.val (.string a1)] ⟨B,Rw,L⟩ fun x st=>x = .tup [.agg (r.1.cs),.val (.int .i64 r.2)]∧st=⟨B,Rw,L⟩:=by
 rw [JC] at h
 refine hd [.cell 4 46,.tmp 5] Tryz.func43 Tryz.ntmps43 fun M0 W0 E y C a F c hs=>?_
 simp only [Au]
 refine rg [1,2,4] hs ?_
 obtain ⟨D,t,h⟩:=bind_some h
 refine rc 2 [2,4,6] hs ?_;intro K2 o
 refine Ai _ (UX w0 n _ _ _ a0 a1 _ t) (hv hs) ?_
 refine ne hs o ?_
 clear o
 apply Ah;intro K4 l
 apply Ak
 refine rg [2,4,6,11] hs ?_
 refine AN h hs (fun hs h=>?_) (fun hs h=>?_)
 ·have k:=hs.1
  refine rg [4,5] hs ?_
  exact rt h hs a c
 have k:=hs.1
 refine rg [2,4,6,16] hs ?_
 refine AN h hs (fun hs h=>?_) (fun hs h=>?_)
 ·have i:=hs.1
  refine rg [4,5] hs ?_
  exact rt h hs a c
 have i:=hs.1
 refine sk [2,4,6] hs l ?_
 clear l
 obtain ⟨w,m,h⟩:=bind_some h
 refine rc 2 [4,6,7] hs ?_;intro K11 d
 refine BB _ (YX w0 n _ _ _ a0 _ m) (hv hs) ?_;rintro _ _ ⟨z,Rv15,rfl,rfl,b⟩
 have c:=c.callV b
 refine ne hs d ?_
 clear d
 apply Ah;intro K16 e
 obtain ⟨u,h⟩:=Aj h
 obtain ⟨j,h⟩:=Aj h
 obtain ⟨v,s,p,c,g⟩:=ZaA w0 c D j
 refine Vy 0 (by decide) ?_
 refine rk 2 [4,7] hs ?_
 refine WP [false,true,true] _ (g _ _) (hv hs) ?_;rintro _ _ ⟨rfl,rfl⟩
 refine ne hs e ?_
 clear e
 refine rg [4,5] hs ?_
 refine S9 (B.length+1) 5 (by first | rfl | (simp only [HQ,Gw];rfl) | (simp +decide only [go_sem,Nat.reduceAdd,k,i])) (by first | rfl | (simp only [ZaQ,List.length_set];rfl)) c true (.inl rfl) (by decide) ((Hg (f:=BM) (sz:=7) (fun _=>by simp +decide only [go_sem]) _)) (Zbc (f:=BM) 7 (fun _=>rfl) (fun _=>by simp +decide only [go_sem]) _) (fun q c=>?_)
 simp +decide only [go_sem,Nat.reduceAdd,List.set_cons_zero,List.set_cons_succ]
 exact rt h hs a c
theorem ZaC (n:Nat) (v:Vl) (hv:v.Nar) (h:v.depth+1000000000<n):KZ n v=some v:=by
 obtain ⟨c,d,_,_,_⟩:=hv.inv
 rw [KZ]
 have:=Zc4 n v ⟨by omega,by omega⟩ (by omega) ⟨fun x b=>GK n x (hv.list b) (by have:=Vl.depth_list b;omega),fun p a=>GK n p.2 (hv.field a) (by have:=Vl.depth_fld a;omega)⟩ v.list.length n 0 (by omega) (by omega)
 rw [List.take_zero] at this
 exact this
theorem XT {l:List (ByteArray × Vl)} {w:ByteArray} (hs:SS l) {i:Nat} (hi:i<l.length) (hw:Cb l[i].1 w=true):PT l (i:Int)=l.filter fun q => !Cb q.1 w:=by
 have e:l.take i++l[i]::l.drop (i+1)=l:=by rw [←List.drop_eq_getElem_cons hi,List.take_append_drop]
 have d:SS (l.take i++l[i]::l.drop (i+1)):=by rw [e];exact hs
 obtain ⟨_,k,n⟩:=List.pairwise_append.1 d
 have j:=(List.pairwise_cons.1 k).1
 have b:=(Ei _ _).1 hw
 have h:(l.take i).filter (fun q => !Cb q.1 w)=l.take i:=List.filter_eq_self.2 fun a f=>by
  have:=n a f _ (List.mem_cons_self ..)
  cases c:Cb a.1 w with
  | false=>rfl
  | true=>rw [(Ei _ _).1 c,b,I0] at this;omega
 have m:(l.drop (i+1)).filter (fun q => !Cb q.1 w)=l.drop (i+1):=List.filter_eq_self.2 fun a f=>by
  have:=j a f
  cases c:Cb a.1 w with
  | false=>rfl
  | true=>rw [(Ei _ _).1 c,b,I0] at this;omega
 have g:(l.take i++l[i]::l.drop (i+1)).filter (fun q => !Cb q.1 w)=l.take i++l.drop (i+1):=by
  rw [List.filter_append,h,List.filter_cons,hw,Af (by decide),m]
 rw [e] at g
 rw [PT,Int.toNat_natCast,g]
theorem Zay (n:Nat) (x:Vl) (w:ByteArray) (hx:x.Nar) (hd:x.depth+1000000001<n) (hs:SS x.fields) (k9:x.kind=9) :
  JC n x w=some (match CG x w with | some _=>(HJ x (x.fields.filter fun q => !Cb q.1 w),0) | none=>(nilV,8)):=by
 obtain ⟨c,d,_,_,_⟩:=hx.inv
 have a:CG x w=(B7 x.fields (Ob (fun q:ByteArray × Vl=>Cb q.1 w) x.fields 0)).map (fun q=>q.2):=by
  rw [←UC];rfl
 rw [JC,Ja,ZjO n x.fields (fun b=>some (FX b w)) (fun q=>Cb q.1 w) (fun x=>rfl) (by omega) (by omega),Ab,Ab,Ad k9,Af (by decide),a]
 rcases Pq (fun q:ByteArray × Vl=>Cb q.1 w) x.fields x.fields.length 0 (by omega) with e | ⟨i,hi,e,hp⟩
 ·rw [e,Ae (by decide)];rfl
 ·rw [e,Ac (by omega),Af (by decide),ZaC n x hx (by omega),Ab,Ae (Av (by omega)),Ae ⟨by omega,by omega⟩,Az hi,XT hs hi hp];rfl
theorem Zp {x:Vl} {w:ByteArray} (h:CG x w=none):HJ x (x.fields.filter fun q => !Cb q.1 w)=x:=by
 have:x.fields.filter (fun q => !Cb q.1 w)=x.fields:=List.filter_eq_self.2 fun a b=>by
  cases c:Cb a.1 w with
  | false=>rfl
  | true =>
   rw [CG,Option.map_eq_none_iff,List.find?_eq_none] at h
   exact absurd c (h a b)
 rw [this]
 exact x.eta
def B1 (h:ByteArray) (g:Int) (b:List (ByteArray × Int)):Option ((List (ByteArray × Int))) :=
 if (b.length+1)*24≤140737488355328∧b.length+1≤4611686018427387904 then
  some (b++([(h,g)]))
 else none
theorem CU (w0:World) (B:List (List AV)) (Rw:List RowA) (L:List LoopA) (a0:ByteArray) (a1:Int) (la2:Nat) (a2:List (ByteArray × Int)) (oa2:Ev.Own) (hla2:B[la2]? = some [.list (a2.map JB) oa2]) (hGa2:Owns Rw Rw [(2,a2.length,oa2)] oa2) (r:(List (ByteArray × Int))) (h:B1 a0 a1 a2=some r) :
  ACalls Tryz.prog w0 96 [.val (.string a0),.val (.int .i64 a1),.box la2 0] ⟨B,Rw,L⟩ fun x st=>x = .tup []∧∃ (R1:List RowA) (o1:Ev.Own),st=⟨(B.set la2 [.list (r.map JB) o1]),R1,L⟩∧Owns Rw R1 [(2,r.length,o1)] oa2:=by
 rw [B1] at h
 refine ACalls.finG (EF (rs:=[]) Tryz.func96 rfl rfl Tryz.ntmps96 (A1 Tryz.func96 rfl (by decide)) (Nat.le_of_ble_eq_true rfl) ?_)
 intro M0 W0 m j i b l
 dsimp only at m j i b l
 simp only [Au]
 have c:=hGa2
 have hs:=Yc
 have f:=(Ag.1 hla2).1
 obtain ⟨d,h⟩:=Aj h
 obtain ⟨e,g,c,a⟩:=c.append (P:=Tryz.prog) Zht (by rw [Zcs];rfl) (by decide) 1 d.1 d.2
 replace a:=fun (ys:List AV) B L e=>a (a2.map JB) ys B L e EA
 replace a:=fun (y:AV) B L e=>a [y] B L e EA ev
 try simp only [List.mem_singleton,List.mem_cons,List.not_mem_nil,or_false,forall_eq_or_imp,forall_eq,List.map_append,List.map_cons,List.map_nil,FP,FN,Fz,FB,FK,Fa,Ea,Eb,FA,Db,Da,Ed,Ek,Ef] at a
 apply Ao 1 []
 rw [Am];simp +decide only [go_sem,Nat.reduceAdd,An hla2,a]
 (repeat' with_reducible apply Aa)<;>first | exact cl | skip
 have hgt:=Option.some.inj h;subst hgt
 have k:=c.unders
 simp only [List.mem_cons,List.not_mem_nil,or_false,forall_eq_or_imp,forall_eq] at k
 refine ZaL c (Ap (Fp b c.len) ow) HN ev ⟨?_,_,_,?_,(c.sub (List.sublist_append_left [_] _)).len1 EA⟩
 all_goals first | rfl | (simp +decide only [go_sem,Nat.reduceAdd,An hla2,a];done) | (simp +decide only [go_sem,Nat.reduceAdd,Vl.cs,Ty.cs,An hla2,a];done)
def Gs (h:Bool) (g:List (ByteArray × Int)) (b:ByteArray):Option ((List (ByteArray × Int))) :=
 if h then
  (B1 b 6 g).bind fun s =>
  some (s)
 else
  (B1 b 7 g).bind fun q =>
  some (q)
theorem J4 (w0:World) (B:List (List AV)) (Rw:List RowA) (L:List LoopA) (a0:Bool) (la1:Nat) (a1:List (ByteArray × Int)) (oa1:Ev.Own) (hla1:B[la1]? = some [.list (a1.map JB) oa1]) (hGa1:Owns Rw Rw [(2,a1.length,oa1)] oa1) (lb1:Nat) (hlb1:B[lb1]? = some [.clo 96 [.box la1 0]]) (la2:Nat) (a2:ByteArray) (hla2:B[la2]? = some ([.val (.string a2)])) (r:(List (ByteArray × Int))) (h:Gs a0 a1 a2=some r) :
  ACalls Tryz.prog w0 161 [.val (.bool a0),.box lb1 0,.box la2 0] ⟨B,Rw,L⟩ fun x st=>x = .tup []∧∃ (R1:List RowA) (o1:Ev.Own),st=⟨(B.set la1 [.list (r.map JB) o1]),R1,L⟩∧Owns Rw R1 [(2,r.length,o1)] oa1:=by
 rw [Gs] at h
 refine ACalls.finG (EF (rs:=[]) Tryz.func161 rfl rfl Tryz.ntmps161 (A1 Tryz.func161 rfl (by decide)) (Nat.le_of_ble_eq_true rfl) ?_)
 intro M0 W0 t l p c v
 dsimp only at t l p c v
 simp only [Au]
 have d:=hGa1
 have hs:=Yc
 have j:=(Ag.1 hla1).1
 have g:=(Ag.1 hlb1).1
 have a:la1≠lb1:=fun q=>by have k:=hla1;rw [q,hlb1] at k;cases k
 have i:=(Ag.1 hla2).1
 have hs:=Aa (An hla1) hs
 have hs:=Aa (An hlb1) hs
 have hs:=Aa (Df hlb1 a) hs
 have hs:=Aa (An hla2) hs
 refine rg [1,2,4] hs ?_
 refine AN h hs (fun hs h=>?_) (fun hs h=>?_)
 ·have b:=hs.1
  obtain ⟨y,m,h⟩:=bind_some h
  apply Ao 2 []
  rw [Am];simp +decide only [go_sem,Nat.reduceAdd,An hla1,An hlb1,Df hlb1 a,An hla2,b]
  (repeat' apply Aa)<;>first | (refine BB _ (CU w0 _ _ _ a2 6 la1 a1 oa1 (ef hs) d.enter _ m) (hv hs) ?_;rintro _ _ ⟨rfl,Rg4,s,rfl,f⟩) | exact cl
  have d:=d.call f
  rw [Am];simp +decide only [go_sem,Nat.reduceAdd,An hla1,An hlb1,Df hlb1 a,An hla2,b]
  (repeat' with_reducible apply Aa)<;>first | exact cl | skip
  have hgt:=Option.some.inj h;subst hgt
  have o:=d.unders
  simp only [List.mem_cons,List.not_mem_nil,or_false,forall_eq_or_imp,forall_eq] at o
  refine ZaL d (Ap (Fp c d.len) ow) HN ev ⟨?_,_,_,?_,(d.sub (List.sublist_append_left [_] _)).len1 EA⟩
  all_goals first | rfl | (simp +decide only [go_sem,Nat.reduceAdd,An hla1,An hlb1,Df hlb1 a,An hla2,b];done) | (simp +decide only [go_sem,Nat.reduceAdd,Vl.cs,Ty.cs,An hla1,An hlb1,Df hlb1 a,An hla2,b];done)
 have b:=hs.1
 obtain ⟨w,n,h⟩:=bind_some h
 apply Ao 2 []
 rw [Am];simp +decide only [go_sem,Nat.reduceAdd,An hla1,An hlb1,Df hlb1 a,An hla2,b]
 (repeat' apply Aa)<;>first | (refine BB _ (CU w0 _ _ _ a2 7 la1 a1 oa1 (ef hs) d.enter _ n) (hv hs) ?_;rintro _ _ ⟨rfl,Rg7,u,rfl,e⟩) | exact cl
 have d:=d.call e
 rw [Am];simp +decide only [go_sem,Nat.reduceAdd,An hla1,An hlb1,Df hlb1 a,An hla2,b]
 (repeat' with_reducible apply Aa)<;>first | exact cl | skip
 have hgt:=Option.some.inj h;subst hgt
 have o:=d.unders
 simp only [List.mem_cons,List.not_mem_nil,or_false,forall_eq_or_imp,forall_eq] at o
 refine ZaL d (Ap (Fp c d.len) ow) HN ev ⟨?_,_,_,?_,(d.sub (List.sublist_append_left [_] _)).len1 EA⟩
 all_goals first | rfl | (simp +decide only [go_sem,Nat.reduceAdd,An hla1,An hlb1,Df hlb1 a,An hla2,b];done) | (simp +decide only [go_sem,Nat.reduceAdd,Vl.cs,Ty.cs,An hla1,An hlb1,Df hlb1 a,An hla2,b];done)
def Do (g:ByteArray) (h:Ty) (b:ByteArray):Option ByteArray :=
 if decide (h.kind=10) then
  if b.size+((⟨#[63]⟩:ByteArray)).size≤9223372036854775807 then
   if (b++((⟨#[63]⟩:ByteArray))).size+g.size≤9223372036854775807 then
    some ((b++((⟨#[63]⟩:ByteArray)))++g)
   else none
  else none
 else
  if Cb b ((⟨#[]⟩:ByteArray)) then
   some (g)
  else
   if b.size+((⟨#[46]⟩:ByteArray)).size≤9223372036854775807 then
    if (b++((⟨#[46]⟩:ByteArray))).size+g.size≤9223372036854775807 then
     some ((b++((⟨#[46]⟩:ByteArray)))++g)
    else none
   else none
theorem Ep (w0:World) (B:List (List AV)) (Rw:List RowA) (L:List LoopA) (a0:ByteArray) (la1:Nat) (a1:Ty) (hla1:B[la1]? = some (a1.cs)) (la2:Nat) (a2:ByteArray) (hla2:B[la2]? = some ([.val (.string a2)])) (r:ByteArray) (h:Do a0 a1 a2=some r) :
  ACalls Tryz.prog w0 162 [.val (.string a0),.box la1 0,.box la2 0] ⟨B,Rw,L⟩ fun x st=>x = .val (.string r)∧st=⟨B,Rw,L⟩:=by
 rw [Do] at h
 refine hd [.tmp 4] Tryz.func162 Tryz.ntmps162 fun M0 W0 s p o a q n hs=>?_
 simp only [Au]
 have j:=(Ag.1 hla1).1
 have k:=(Ag.1 hla2).1
 have hs:=Aa (An hla1) hs
 have hs:=Aa (An hla2) hs
 refine rg [0,1,2] hs ?_
 apply Ah;intro K2 g
 apply Ak
 refine rg [0,2,5] hs ?_
 refine AN h hs (fun hs h=>?_) (fun hs h=>?_)
 ·obtain ⟨l,h⟩:=Aj h
  have i:=l
  try simp +decide only [go_sem] at i
  obtain ⟨m,h⟩:=Aj h
  have d:=m
  try simp +decide only [go_sem] at d
  refine rg [4] hs ?_
  exact rt h hs a n
 refine rg [0,2,13] hs ?_
 refine AN h hs (fun hs h=>?_) (fun hs h=>?_)
 ·refine rg [4] hs ?_
  exact rt h hs a n
 refine sk [0,2] hs g ?_
 clear g
 obtain ⟨e,h⟩:=Aj h
 have b:=e
 try simp +decide only [go_sem] at b
 obtain ⟨f,h⟩:=Aj h
 have c:=f
 try simp +decide only [go_sem] at c
 refine rg [4] hs ?_
 exact rt h hs a n
def Gm (rec:Ty→Ty→ByteArray→(List (ByteArray × Int))→Option ((List (ByteArray × Int)))) (n:Nat) (g:Int→(List (ByteArray × Int))→Option ((List (ByteArray × Int)))) (b:Int) (pla3_k20:List (ByteArray × Int)):Option ((List (ByteArray × Int))) :=
 if BQ (b+1) then
  g (b+1) pla3_k20
 else none
def Gl (rec:Ty→Ty→ByteArray→(List (ByteArray × Int))→Option ((List (ByteArray × Int)))) (n:Nat) (g:Int→(List (ByteArray × Int))→Option ((List (ByteArray × Int)))) (b:Int) (pla3_k63:List (ByteArray × Int)):Option ((List (ByteArray × Int))) :=
 if BQ (b+1) then
  g (b+1) pla3_k63
 else none
def Gi (rec:Ty→Ty→ByteArray→(List (ByteArray × Int))→Option ((List (ByteArray × Int)))) (n:Nat) (s:Ty) (y:Ty) (q:ByteArray) (pla3_k79:List (ByteArray × Int)):Option ((List (ByteArray × Int))) :=
 (B7 s.elem 0).bind fun b =>
 (B7 y.elem 0).bind fun h =>
 if q.size+((⟨#[91,42,93]⟩:ByteArray)).size≤9223372036854775807 then
  (rec b h (q++((⟨#[91,42,93]⟩:ByteArray))) pla3_k79).bind fun g =>
  some (g)
 else none
def Gv (rec:Ty→Ty→ByteArray→(List (ByteArray × Int))→Option ((List (ByteArray × Int)))) (n:Nat) (b:Int→(List (ByteArray × Int))→Option ((List (ByteArray × Int)))) (a1:Ty) (a2:ByteArray) (g:Int) (h:Int × ByteArray × Int × Ty × List Vl) (s:((Int × ByteArray × Int × Ty × List Vl) × Bool)) (pla3_k44:List (ByteArray × Int)):Option ((List (ByteArray × Int))) :=
 (Do h.2.1 a1 a2).bind fun y =>
 (rec s.1.2.2.2.1 h.2.2.2.1 y pla3_k44).bind fun q =>
 Gm rec n b g q
def DW (rec:Ty→Ty→ByteArray→(List (ByteArray × Int))→Option ((List (ByteArray × Int)))) (n:Nat) (h:Ty) (q:Ty) (s:ByteArray):Nat→Int→(List (ByteArray × Int))→Option ((List (ByteArray × Int)))
 | 0,_,_=>none
 | m+1,b,pla3_l58 =>
  if decide (b<(h.fields.length:Int)) then
   (B7 h.fields b).bind fun g =>
   (C4 n q.fields g.1).bind fun y68 =>
   if !y68.2 then
    (Do g.2.1 q s).bind fun y71 =>
    (B1 y71 2 pla3_l58).bind fun y =>
    Gl rec n (DW rec n h q s m) b y
   else
    Gl rec n (DW rec n h q s m) b pla3_l58
  else
   some (pla3_l58)
def Gj (rec:Ty→Ty→ByteArray→(List (ByteArray × Int))→Option ((List (ByteArray × Int)))) (n:Nat) (b:Int→(List (ByteArray × Int))→Option ((List (ByteArray × Int)))) (a1:Ty) (s:ByteArray) (g:Int) (h:Int × ByteArray × Int × Ty × List Vl) (q:((Int × ByteArray × Int × Ty × List Vl) × Bool)) (pla3_k35:List (ByteArray × Int)):Option ((List (ByteArray × Int))) :=
 if !(decide (q.1.2.2.1=h.2.2.1)) then
  (Do h.2.1 a1 s).bind fun y =>
  (B1 y 4 pla3_k35).bind fun y49 =>
  Gv rec n b a1 s g h q y49
 else
  Gv rec n b a1 s g h q pla3_k35
def Ik (rec:Ty→Ty→ByteArray→(List (ByteArray × Int))→Option ((List (ByteArray × Int)))) (n:Nat) (g:Ty) (b:Ty) (h:ByteArray) (pla3_k12:List (ByteArray × Int)):Option ((List (ByteArray × Int))) :=
 DW rec n g b h n 0 pla3_k12
def BX (rec:Ty→Ty→ByteArray→(List (ByteArray × Int))→Option ((List (ByteArray × Int)))) (n:Nat) (y:Ty) (h:Ty) (s:ByteArray):Nat→Int→(List (ByteArray × Int))→Option ((List (ByteArray × Int)))
 | 0,_,_=>none
 | m+1,b,pla3_l15 =>
  if decide (b<(h.fields.length:Int)) then
   (B7 h.fields b).bind fun g =>
   (C4 n y.fields g.1).bind fun q =>
   if !q.2 then
    (Do g.2.1 h s).bind fun y30 =>
    (B1 y30 1 pla3_l15).bind fun y31 =>
    Gm rec n (BX rec n y h s m) b y31
   else
    if !(Cb q.1.2.1 g.2.1) then
     (Do g.2.1 h s).bind fun y39 =>
     (B1 y39 3 pla3_l15).bind fun y40 =>
     Gj rec n (BX rec n y h s m) h s b g q y40
    else
     Gj rec n (BX rec n y h s m) h s b g q pla3_l15
  else
   Ik rec n y h s pla3_l15
def Jh (rec:Ty→Ty→ByteArray→(List (ByteArray × Int))→Option ((List (ByteArray × Int)))) (n:Nat) (g:Ty) (b:Ty) (q:ByteArray) (h:List (ByteArray × Int)):Option ((List (ByteArray × Int))) :=
 if !(Dy g.kind b.kind) then
  (B1 q 5 h).bind fun y5 =>
  some (y5)
 else
  if (decide (b.kind=9))||(decide (b.kind=10)) then
   BX rec n g b q n 0 h
  else
   if decide (b.kind=8) then
    if (!(decide (g.min=b.min)))||(!(decide (g.max=b.max))) then
     (Gs (C7 g b) h q).bind fun y83 =>
     Gi rec n g b q y83
    else
     Gi rec n g b q h
   else
    (Px n g b).bind fun y93 =>
    if !y93 then
     (AK n g b).bind fun y =>
     (Gs y h q).bind fun s =>
     some (s)
    else
     some (h)
def Hu:Nat→Ty→Ty→ByteArray→(List (ByteArray × Int))→Option ((List (ByteArray × Int)))
 | 0,_,_,_,_=>none
 | n+1,g,b,q,h=>Jh (Hu n) n g b q h
def Jk (w0:World) (F:Ty→Ty→ByteArray→(List (ByteArray × Int))→Option ((List (ByteArray × Int)))):Prop:=∀ (B:List (List AV)) (Rw:List RowA) (L:List LoopA) (q:Ty) (g:Ty) (h:ByteArray) (la3:Nat) (b:List (ByteArray × Int)) (oa3:Ev.Own) (hla3:B[la3]? = some [.list (b.map JB) oa3]) (hGa3:Owns Rw Rw [(2,b.length,oa3)] oa3) (r:(List (ByteArray × Int))),F q g h b=some r→ACalls Tryz.prog w0 95 [.agg (q.cs),.agg (g.cs),.val (.string h),.clo 96 [.box la3 0]] ⟨B,Rw,L⟩ fun x st=>x = .tup []∧∃ (R1:List RowA) (o1:Ev.Own),st=⟨(B.set la3 [.list (r.map JB) o1]),R1,L⟩∧Owns Rw R1 [(2,r.length,o1)] oa3
theorem PG (w0:World) (rec:Ty→Ty→ByteArray→(List (ByteArray × Int))→Option ((List (ByteArray × Int)))) (ih:Jk w0 rec) (n:Nat):Jk w0 (Jh rec n):=by
 intro B Rw L a0 a1 a2 p a3 ak a cb r h
 rw [Jh] at h
 refine ACalls.finG (EF (rs:=[]) Tryz.func95 rfl rfl Tryz.ntmps95 (A1 Tryz.func95 rfl (by decide)) (Nat.le_of_ble_eq_true rfl) ?_)
 intro M0 W0 hN ao ap v hu
 dsimp only at hN ao ap v hu
 simp only [Au]
 have l:=cb
 have hs:=Yc
 have ce:=(Ag.1 a).1
 have hs:=Aa (An a) hs
 refine rg [4,5,6,7] hs ?_
 refine rg [4,5,6,7,8] hs ?_
 apply Ak
 refine rc 2 [4,5,6,7,8,19] hs ?_;intro K3 bx
 refine Ai _ (JY w0 _ _ _ a0.kind a1.kind) (hv hs) ?_
 refine ne hs bx ?_
 clear bx
 refine AN h hs (fun hs h=>?_) (fun hs h=>?_)
 ·have c:=hs.1
  obtain ⟨y5,cf,h⟩:=bind_some h
  apply Ao 2 []
  rw [Am];simp +decide only [go_sem,Nat.reduceAdd,An a,c]
  (repeat' apply Aa)<;>first | (refine BB _ (CU w0 _ _ _ a2 5 p a3 ak (ef hs) l.enter _ cf) (hv hs) ?_;rintro _ _ ⟨rfl,Rg6,c9,rfl,bi⟩) | exact cl
  have l:=l.call bi
  rw [Am];simp +decide only [go_sem,Nat.reduceAdd,An a,c]
  (repeat' with_reducible apply Aa)<;>first | exact cl | skip
  have hgt:=Option.some.inj h;subst hgt
  have hU:=l.unders
  simp only [List.mem_cons,List.not_mem_nil,or_false,forall_eq_or_imp,forall_eq] at hU
  refine R9 l (Ap (Fp v l.len) ow) HN ev ⟨?_,_,_,?_,(l.sub (List.sublist_append_left [_] _)).len1 EA⟩
  all_goals first | rfl | (simp +decide only [go_sem,Nat.reduceAdd,An a,c];done) | (simp +decide only [go_sem,Nat.reduceAdd,Vl.cs,Ty.cs,An a,c];done)
 have c:=hs.1
 refine rg [4,5,6,7,8,29] hs ?_
 refine AN h hs (fun hs h=>?_) (fun hs h=>?_)
 ·have d:=hs.1
  refine rg [4,5,7,9] hs ?_
  refine Aw (fun e st=>∃ (U:List (ByteArray × Int)) (ad:Ev.Own) (Xk12:List (List AV)) (Rk12:List RowA),e=[(4,true,.box B.length 0),(5,true,.box (B.length+1) 0),(7,true,.box (B.length+3) 0),(9,true,.clo 162 [.box (B.length+1) 0,.box (B.length+2) 0])]∧st=⟨(B.set p ([.list (U.map JB) ad]))++([a0.cs,a1.cs,[.val (.string a2)],[.clo 96 [.box p 0]]]++Xk12),Rk12,L⟩∧Owns Rw Rk12 [(2,U.length,ad)] ak∧Ik rec n a0 a1 a2 U=some r) ?_ ?_
  ·intro K13 b0
   refine rg [4,5,7,9,40,41,42] hs ?_
   apply Ak
   refine AC (fun m e st=>∃ (q:Int) (u:List (ByteArray × Int)) (t:Ev.Own) (Xl15:List (List AV)) (Rl15:List RowA),e=[(4,true,.box B.length 0),(5,true,.box (B.length+1) 0),(7,true,.box (B.length+3) 0),(9,true,.clo 162 [.box (B.length+1) 0,.box (B.length+2) 0]),(40,true,.list (a1.fields.map Cm) .none),(41,true,.val (.int .i64 (a1.fields.length:Int))),(42,true,.val (.int .i64 q))]∧st=⟨(B.set p ([.list (u.map JB) t]))++([a0.cs,a1.cs,[.val (.string a2)],[.clo 96 [.box p 0]]]++Xl15),Rl15,L⟩∧Owns Rw Rl15 [(2,u.length,t)] ak∧BX rec n a0 a1 a2 m q u=some r) n ⟨0,a3,ak,([]),Rw,ef hs,ef hs,Owns.of_eq (l) EA,h⟩ ?_
   rintro ml15 e st ⟨q,u,t,Xl15,Rl15,rfl,rfl,l,h⟩ Ul15 Vl15
   cases ml15 with
   | zero=>cases h
   | succ ml15 =>
   rw [BX] at h
   have hU:=l.unders
   simp only [List.mem_cons,List.not_mem_nil,or_false,forall_eq_or_imp,forall_eq] at hU
   refine Is hN ao ap HN (Ap (Fp v l.len) ow) l ow ow ?_
   refine rg [4,5,7,9,40,41,42,43] hs ?_
   apply Ah;intro K17 bf
   refine AN h hs (fun hs h=>?_) (fun hs h=>?_)
   rotate_left
   ·have g:=hs.1
    refine sx [4,5,7,9] hs b0 ?_
    exact ⟨u,t,([]),Rl15,ef hs,ef hs,Owns.of_eq (l) EA,h⟩
   have g:=hs.1
   refine sk [4,5,7,9,40,41,42] hs bf ?_
   clear bf
   refine Aw (fun e st=>∃ (N:List (ByteArray × Int)) (Z:Ev.Own) (Xk20:List (List AV)) (Rk20:List RowA),e=[(4,true,.box B.length 0),(5,true,.box (B.length+1) 0),(7,true,.box (B.length+3) 0),(9,true,.clo 162 [.box (B.length+1) 0,.box (B.length+2) 0]),(40,true,.list (a1.fields.map Cm) .none),(41,true,.val (.int .i64 (a1.fields.length:Int))),(42,true,.val (.int .i64 q))]∧st=⟨(B.set p ([.list (N.map JB) Z]))++([a0.cs,a1.cs,[.val (.string a2)],[.clo 96 [.box p 0]]]++Xk20),Rk20,L⟩∧Owns Rw Rk20 [(2,N.length,Z)] ak∧Gm rec n (BX rec n a0 a1 a2 ml15) q N=some r) ?_ ?_
   ·intro K21 a5
    apply Ak
    obtain ⟨k,bs,h⟩:=bind_some h
    obtain ⟨c4,cx,bg⟩:=AA bs
    have b:=AB (f:=Cm) bg
    have hs:=Aa b hs
    refine rg [4,5,7,9,11,40,41,42] hs ?_
    obtain ⟨o,b6,h⟩:=bind_some h
    refine rc 2 [4,5,7,9,11,12,13,40,41,42] hs ?_;intro K24 a4
    refine Ai _ (EJ w0 n _ _ _ a0.fields k.1 _ b6) (hv hs) ?_
    refine ne hs a4 ?_
    clear a4
    apply Ah;intro K26 ba
    refine rg [4,5,7,9,11,12,40,41,42,55] hs ?_
    refine AN h hs (fun hs h=>?_) (fun hs h=>?_)
    ·have j:=hs.1
     apply Ah;intro K29 a8
     obtain ⟨ch,bz,h⟩:=bind_some h
     obtain ⟨cz,b4,h⟩:=bind_some h
     apply MN HH [5] [4,5,7,9,40,41,42] kr (fun s=>∃ (X:List (List AV)) (rows:List RowA) (x:List AV),s=⟨(B.set p x)++([a0.cs,a1.cs,[.val (.string a2)],[.clo 96 [.box p 0]],.val (.int .i64 k.1)::(.val (.string k.2.1)::(.val (.int .i64 k.2.2.1)::((k.2.2.2.1.cs)++([.list (k.2.2.2.2.map Bo) .none])))),.val (.int .i64 o.1.1)::(.val (.string o.1.2.1)::(.val (.int .i64 o.1.2.2.1)::((o.1.2.2.2.1.cs)++([.list (o.1.2.2.2.2.map Bo) .none]))))]++X),rows,L⟩) 2 (B.length+6)
     ·simp +decide only [go_sem,Nat.reduceAdd]
     ·rintro s ⟨X,rows,x,rfl⟩
      refine ⟨2,?_⟩
      rw [Am];simp +decide only [go_sem,Nat.reduceAdd,Eh,An a,c,d,g,b,j]
      (repeat' apply Aa)<;>first | refine Ai _ (Ep w0 _ _ _ k.2.1 (B.length+1) a1 (ef hs) (B.length+2) a2 (ef hs) _ bz) (hv hs) ?_ | exact cl
      rw [Am];simp +decide only [go_sem,Nat.reduceAdd,An a,c,d,g,b,j]
      (repeat' apply Aa)<;>first | rfl | exact cl
     ·refine Good.mk [5] kr ⟨[],_,_,by first | rfl | simp only [List.append_nil,List.nil_append]⟩ ?_ ?_
      ·intro h;exact absurd h (by decide)
      ·intro i hi;simp only [List.mem_cons,List.not_mem_nil,or_false] at hi
       subst hi
       ·apply Jf rfl rfl ev rfl
        ·simp +decide only [go_sem,Nat.reduceAdd,An a,c,d,g,b,j]
        ·simp +decide only [go_sem,Nat.reduceAdd,An a,c,d,g,b,j]
        ·simp +decide only [go_sem,Nat.reduceAdd,An a,c,d,g,b,j]
         exact (CU w0 _ _ _ ch 1 p u t (ef hs) l.enter _ b4).pub (hv hs)
        ·rintro _ _ ⟨rfl,Rg32,bw,rfl,ar⟩
         have l:=l.call ar
         simp +decide only [go_sem,Nat.reduceAdd,An a,c,d,g,b,j]
         refine Good.mk [] kr ⟨[],_,_,by first | rfl | simp only [List.append_nil,List.nil_append]⟩ ?_ ?_
         ·intro _;refine ⟨_,_,CO [4,5,7,9,40,41,42] (by first | (simp +decide only [go_sem,Nat.reduceAdd,An a,c,d,g,b,j];done) | (simp +decide only [go_sem,Nat.reduceAdd,An a,c,d,g,b,j];rfl)),?_⟩
          try simp +decide only [go_sem,Nat.reduceAdd,An a,c,d,g,b,j]
          (repeat' apply Aa)<;>first | refine a8 _ _ ?_ | exact cl
          clear a8
          refine sx [4,5,7,9,40,41,42] hs a5 ?_
          exact ⟨cz,bw,([.val (.int .i64 k.1)::(.val (.string k.2.1)::(.val (.int .i64 k.2.2.1)::((k.2.2.2.1.cs)++([.list (k.2.2.2.2.map Bo) .none])))),.val (.int .i64 o.1.1)::(.val (.string o.1.2.1)::(.val (.int .i64 o.1.2.2.1)::((o.1.2.2.2.1.cs)++([.list (o.1.2.2.2.2.map Bo) .none]))))]),Rg32,ef hs,ef hs,Owns.of_eq (l) EA,h⟩
         ·intro i hi;cases hi
    have j:=hs.1
    refine sk [4,5,7,9,11,12,40,41,42] hs ba ?_
    clear ba
    refine Aw (fun e st=>∃ (C:List (ByteArray × Int)) (G:Ev.Own) (Xk35:List (List AV)) (Rk35:List RowA),e=[(4,true,.box B.length 0),(5,true,.box (B.length+1) 0),(7,true,.box (B.length+3) 0),(9,true,.clo 162 [.box (B.length+1) 0,.box (B.length+2) 0]),(11,true,.box (B.length+4) 0),(12,true,.box (B.length+5) 0),(40,true,.list (a1.fields.map Cm) .none),(41,true,.val (.int .i64 (a1.fields.length:Int))),(42,true,.val (.int .i64 q))]∧st=⟨(B.set p ([.list (C.map JB) G]))++([a0.cs,a1.cs,[.val (.string a2)],[.clo 96 [.box p 0]],.val (.int .i64 k.1)::(.val (.string k.2.1)::(.val (.int .i64 k.2.2.1)::((k.2.2.2.1.cs)++([.list (k.2.2.2.2.map Bo) .none])))),.val (.int .i64 o.1.1)::(.val (.string o.1.2.1)::(.val (.int .i64 o.1.2.2.1)::((o.1.2.2.2.1.cs)++([.list (o.1.2.2.2.2.map Bo) .none]))))]++Xk35),Rk35,L⟩∧Owns Rw Rk35 [(2,C.length,G)] ak∧Gj rec n (BX rec n a0 a1 a2 ml15) a1 a2 q k o C=some r) ?_ ?_
    ·intro K36 bd
     refine rg [4,5,7,9,11,12,40,41,42,66] hs ?_
     refine AN h hs (fun hs h=>?_) (fun hs h=>?_)
     ·have ag:=hs.1
      obtain ⟨cu,ca,h⟩:=bind_some h
      obtain ⟨ci,bo,h⟩:=bind_some h
      apply MN HH [5] [4,5,7,9,11,12,40,41,42] kr (fun s=>∃ (X:List (List AV)) (rows:List RowA) (x:List AV),s=⟨(B.set p x)++([a0.cs,a1.cs,[.val (.string a2)],[.clo 96 [.box p 0]],.val (.int .i64 k.1)::(.val (.string k.2.1)::(.val (.int .i64 k.2.2.1)::((k.2.2.2.1.cs)++([.list (k.2.2.2.2.map Bo) .none])))),.val (.int .i64 o.1.1)::(.val (.string o.1.2.1)::(.val (.int .i64 o.1.2.2.1)::((o.1.2.2.2.1.cs)++([.list (o.1.2.2.2.2.map Bo) .none]))))]++X),rows,L⟩) 2 (B.length+6)
      ·simp +decide only [go_sem,Nat.reduceAdd]
      ·rintro s ⟨X,rows,x,rfl⟩
       refine ⟨2,?_⟩
       rw [Am];simp +decide only [go_sem,Nat.reduceAdd,Eh,An a,c,d,g,b,j,ag]
       (repeat' apply Aa)<;>first | refine Ai _ (Ep w0 _ _ _ k.2.1 (B.length+1) a1 (ef hs) (B.length+2) a2 (ef hs) _ ca) (hv hs) ?_ | exact cl
       rw [Am];simp +decide only [go_sem,Nat.reduceAdd,An a,c,d,g,b,j,ag]
       (repeat' apply Aa)<;>first | rfl | exact cl
      ·refine Good.mk [5] kr ⟨[],_,_,by first | rfl | simp only [List.append_nil,List.nil_append]⟩ ?_ ?_
       ·intro h;exact absurd h (by decide)
       ·intro i hi;simp only [List.mem_cons,List.not_mem_nil,or_false] at hi
        subst hi
        ·apply Jf rfl rfl ev rfl
         ·simp +decide only [go_sem,Nat.reduceAdd,An a,c,d,g,b,j,ag]
         ·simp +decide only [go_sem,Nat.reduceAdd,An a,c,d,g,b,j,ag]
         ·simp +decide only [go_sem,Nat.reduceAdd,An a,c,d,g,b,j,ag]
          exact (CU w0 _ _ _ cu 3 p u t (ef hs) l.enter _ bo).pub (hv hs)
         ·rintro _ _ ⟨rfl,Rg41,b9,rfl,aq⟩
          have l:=l.call aq
          simp +decide only [go_sem,Nat.reduceAdd,An a,c,d,g,b,j,ag]
          refine Good.mk [] kr ⟨[],_,_,by first | rfl | simp only [List.append_nil,List.nil_append]⟩ ?_ ?_
          ·intro _;refine ⟨_,_,CO [4,5,7,9,11,12,40,41,42] (by first | (simp +decide only [go_sem,Nat.reduceAdd,An a,c,d,g,b,j,ag];done) | (simp +decide only [go_sem,Nat.reduceAdd,An a,c,d,g,b,j,ag];rfl)),?_⟩
           try simp +decide only [go_sem,Nat.reduceAdd,An a,c,d,g,b,j,ag]
           (repeat' apply Aa)<;>first | refine bd _ _ ⟨ci,b9,([]),Rg41,ef hs,ef hs,Owns.of_eq (l) EA,h⟩ | exact cl
          ·intro i hi;cases hi
     have ag:=hs.1
     refine sk [4,5,7,9,11,12,40,41,42] hs bd ?_
     exact ⟨u,t,([]),Rl15,ef hs,ef hs,Owns.of_eq (l) EA,h⟩
    ·clear h;rintro e st ⟨C,G,Xk35,Rk35,rfl,rfl,l,h⟩
     rw [Gj] at h
     have hU:=l.unders
     simp only [List.mem_cons,List.not_mem_nil,or_false,forall_eq_or_imp,forall_eq] at hU
     refine Is hN ao ap HN (Ap (Fp v l.len) ow) l ow ow ?_
     refine Aw (fun e st=>∃ (V:List (ByteArray × Int)) (ab:Ev.Own) (Xk44:List (List AV)) (Rk44:List RowA),e=[(4,true,.box B.length 0),(5,true,.box (B.length+1) 0),(7,true,.box (B.length+3) 0),(9,true,.clo 162 [.box (B.length+1) 0,.box (B.length+2) 0]),(11,true,.box (B.length+4) 0),(12,true,.box (B.length+5) 0),(40,true,.list (a1.fields.map Cm) .none),(41,true,.val (.int .i64 (a1.fields.length:Int))),(42,true,.val (.int .i64 q))]∧st=⟨(B.set p ([.list (V.map JB) ab]))++([a0.cs,a1.cs,[.val (.string a2)],[.clo 96 [.box p 0]],.val (.int .i64 k.1)::(.val (.string k.2.1)::(.val (.int .i64 k.2.2.1)::((k.2.2.2.1.cs)++([.list (k.2.2.2.2.map Bo) .none])))),.val (.int .i64 o.1.1)::(.val (.string o.1.2.1)::(.val (.int .i64 o.1.2.2.1)::((o.1.2.2.2.1.cs)++([.list (o.1.2.2.2.2.map Bo) .none]))))]++Xk44),Rk44,L⟩∧Owns Rw Rk44 [(2,V.length,ab)] ak∧Gv rec n (BX rec n a0 a1 a2 ml15) a1 a2 q k o V=some r) ?_ ?_
     ·intro K45 bb
      refine rg [4,5,7,9,11,12,40,41,42,77] hs ?_
      refine AN h hs (fun hs h=>?_) (fun hs h=>?_)
      ·have ai:=hs.1
       obtain ⟨cg,bq,h⟩:=bind_some h
       obtain ⟨cq,bn,h⟩:=bind_some h
       apply MN HH [5] [4,5,7,9,11,12,40,41,42] kr (fun s=>∃ (X:List (List AV)) (rows:List RowA) (x:List AV),s=⟨(B.set p x)++([a0.cs,a1.cs,[.val (.string a2)],[.clo 96 [.box p 0]],.val (.int .i64 k.1)::(.val (.string k.2.1)::(.val (.int .i64 k.2.2.1)::((k.2.2.2.1.cs)++([.list (k.2.2.2.2.map Bo) .none])))),.val (.int .i64 o.1.1)::(.val (.string o.1.2.1)::(.val (.int .i64 o.1.2.2.1)::((o.1.2.2.2.1.cs)++([.list (o.1.2.2.2.2.map Bo) .none]))))]++X),rows,L⟩) 2 (B.length+6)
       ·simp +decide only [go_sem,Nat.reduceAdd]
       ·rintro s ⟨X,rows,x,rfl⟩
        refine ⟨2,?_⟩
        rw [Am];simp +decide only [go_sem,Nat.reduceAdd,Eh,An a,c,d,g,b,j,ai]
        (repeat' apply Aa)<;>first | refine Ai _ (Ep w0 _ _ _ k.2.1 (B.length+1) a1 (ef hs) (B.length+2) a2 (ef hs) _ bq) (hv hs) ?_ | exact cl
        rw [Am];simp +decide only [go_sem,Nat.reduceAdd,An a,c,d,g,b,j,ai]
        (repeat' apply Aa)<;>first | rfl | exact cl
       ·refine Good.mk [5] kr ⟨[],_,_,by first | rfl | simp only [List.append_nil,List.nil_append]⟩ ?_ ?_
        ·intro h;exact absurd h (by decide)
        ·intro i hi;simp only [List.mem_cons,List.not_mem_nil,or_false] at hi
         subst hi
         ·apply Jf rfl rfl ev rfl
          ·simp +decide only [go_sem,Nat.reduceAdd,An a,c,d,g,b,j,ai]
          ·simp +decide only [go_sem,Nat.reduceAdd,An a,c,d,g,b,j,ai]
          ·simp +decide only [go_sem,Nat.reduceAdd,An a,c,d,g,b,j,ai]
           exact (CU w0 _ _ _ cg 4 p C G (ef hs) l.enter _ bn).pub (hv hs)
          ·rintro _ _ ⟨rfl,Rg50,b1,rfl,au⟩
           have l:=l.call au
           simp +decide only [go_sem,Nat.reduceAdd,An a,c,d,g,b,j,ai]
           refine Good.mk [] kr ⟨[],_,_,by first | rfl | simp only [List.append_nil,List.nil_append]⟩ ?_ ?_
           ·intro _;refine ⟨_,_,CO [4,5,7,9,11,12,40,41,42] (by first | (simp +decide only [go_sem,Nat.reduceAdd,An a,c,d,g,b,j,ai];done) | (simp +decide only [go_sem,Nat.reduceAdd,An a,c,d,g,b,j,ai];rfl)),?_⟩
            try simp +decide only [go_sem,Nat.reduceAdd,An a,c,d,g,b,j,ai]
            (repeat' apply Aa)<;>first | refine bb _ _ ⟨cq,b1,([]),Rg50,ef hs,ef hs,Owns.of_eq (l) EA,h⟩ | exact cl
           ·intro i hi;cases hi
      have ai:=hs.1
      refine sk [4,5,7,9,11,12,40,41,42] hs bb ?_
      exact ⟨C,G,([]),Rk35,ef hs,ef hs,Owns.of_eq (l) EA,h⟩
     ·clear h;rintro e st ⟨V,ab,Xk44,Rk44,rfl,rfl,l,h⟩
      rw [Gv] at h
      have hU:=l.unders
      simp only [List.mem_cons,List.not_mem_nil,or_false,forall_eq_or_imp,forall_eq] at hU
      refine Is hN ao ap HN (Ap (Fp v l.len) ow) l ow ow ?_
      obtain ⟨cr,cd,h⟩:=bind_some h
      obtain ⟨cw,bu,h⟩:=bind_some h
      apply MN HH [9] [4,5,7,9,40,41,42] kr (fun s=>∃ (X:List (List AV)) (rows:List RowA) (x:List AV),s=⟨(B.set p x)++([a0.cs,a1.cs,[.val (.string a2)],[.clo 96 [.box p 0]],.val (.int .i64 k.1)::(.val (.string k.2.1)::(.val (.int .i64 k.2.2.1)::((k.2.2.2.1.cs)++([.list (k.2.2.2.2.map Bo) .none])))),.val (.int .i64 o.1.1)::(.val (.string o.1.2.1)::(.val (.int .i64 o.1.2.2.1)::((o.1.2.2.2.1.cs)++([.list (o.1.2.2.2.2.map Bo) .none]))))]++X),rows,L⟩) 2 (B.length+6)
      ·simp +decide only [go_sem,Nat.reduceAdd]
      ·rintro s ⟨X,rows,x,rfl⟩
       refine ⟨2,?_⟩
       rw [Am];simp +decide only [go_sem,Nat.reduceAdd,Eh,An a,c,d,g,b,j]
       (repeat' apply Aa)<;>first | refine Ai _ (Ep w0 _ _ _ k.2.1 (B.length+1) a1 (ef hs) (B.length+2) a2 (ef hs) _ cd) (hv hs) ?_ | exact cl
       rw [Am];simp +decide only [go_sem,Nat.reduceAdd,An a,c,d,g,b,j]
       (repeat' apply Aa)<;>first | rfl | exact cl
      ·refine Good.mk [9] kr ⟨[],_,_,by first | rfl | simp only [List.append_nil,List.nil_append]⟩ ?_ ?_
       ·intro h;exact absurd h (by decide)
       ·intro i hi;simp only [List.mem_cons,List.not_mem_nil,or_false] at hi
        subst hi
        ·apply Jf rfl rfl ev rfl
         ·simp +decide only [go_sem,Nat.reduceAdd,An a,c,d,g,b,j]
         ·simp +decide only [go_sem,Nat.reduceAdd,An a,c,d,g,b,j]
         ·simp +decide only [go_sem,Nat.reduceAdd,An a,c,d,g,b,j]
          exact (ih _ _ _ o.1.2.2.2.1 k.2.2.2.1 cr p V ab (ef hs) l.enter _ bu).pub (hv hs)
         ·rintro _ _ ⟨rfl,Rg54,bl,rfl,az⟩
          have l:=l.call az
          simp +decide only [go_sem,Nat.reduceAdd,An a,c,d,g,b,j]
          refine Good.mk [] kr ⟨[],_,_,by first | rfl | simp only [List.append_nil,List.nil_append]⟩ ?_ ?_
          ·intro _;refine ⟨_,_,CO [4,5,7,9,40,41,42] (by first | (simp +decide only [go_sem,Nat.reduceAdd,An a,c,d,g,b,j];done) | (simp +decide only [go_sem,Nat.reduceAdd,An a,c,d,g,b,j];rfl)),?_⟩
           try simp +decide only [go_sem,Nat.reduceAdd,An a,c,d,g,b,j]
           (repeat' apply Aa)<;>first | refine a5 _ _ ⟨cw,bl,([.val (.int .i64 k.1)::(.val (.string k.2.1)::(.val (.int .i64 k.2.2.1)::((k.2.2.2.1.cs)++([.list (k.2.2.2.2.map Bo) .none])))),.val (.int .i64 o.1.1)::(.val (.string o.1.2.1)::(.val (.int .i64 o.1.2.2.1)::((o.1.2.2.2.1.cs)++([.list (o.1.2.2.2.2.map Bo) .none]))))]),Rg54,ef hs,ef hs,Owns.of_eq (l) EA,h⟩ | exact cl
          ·intro i hi;cases hi
   ·clear h;rintro e st ⟨N,Z,Xk20,Rk20,rfl,rfl,l,h⟩
    rw [Gm] at h
    have hU:=l.unders
    simp only [List.mem_cons,List.not_mem_nil,or_false,forall_eq_or_imp,forall_eq] at hU
    refine Is hN ao ap HN (Ap (Fp v l.len) ow) l ow ow ?_
    obtain ⟨c7,h⟩:=Aj h
    refine rl [4,5,7,9,40,41,42] hs (fun e s=>Vl15 ml15 e s (Nat.lt_succ_self _)) ?_
    exact ⟨(q+1),N,Z,([]),Rk20,ef hs,ef hs,Owns.of_eq (l) EA,h⟩
  ·clear h;rintro e st ⟨U,ad,Xk12,Rk12,rfl,rfl,l,h⟩
   rw [Ik] at h
   have hU:=l.unders
   simp only [List.mem_cons,List.not_mem_nil,or_false,forall_eq_or_imp,forall_eq] at hU
   refine Is hN ao ap HN (Ap (Fp v l.len) ow) l ow ow ?_
   refine rg [5,7,9,96,97,98] hs ?_
   apply Ak
   refine AC (fun m e st=>∃ (Q:Int) (D:List (ByteArray × Int)) (H:Ev.Own) (Xl58:List (List AV)) (Rl58:List RowA),e=[(5,true,.box (B.length+1) 0),(7,true,.box (B.length+3) 0),(9,true,.clo 162 [.box (B.length+1) 0,.box (B.length+2) 0]),(96,true,.list (a0.fields.map Cm) .none),(97,true,.val (.int .i64 (a0.fields.length:Int))),(98,true,.val (.int .i64 Q))]∧st=⟨(B.set p ([.list (D.map JB) H]))++([a0.cs,a1.cs,[.val (.string a2)],[.clo 96 [.box p 0]]]++Xl58),Rl58,L⟩∧Owns Rw Rl58 [(2,D.length,H)] ak∧DW rec n a0 a1 a2 m Q D=some r) n ⟨0,U,ad,([]),Rk12,ef hs,ef hs,Owns.of_eq (l) EA,h⟩ ?_
   rintro ml58 e st ⟨Q,D,H,Xl58,Rl58,rfl,rfl,l,h⟩ Ul58 Vl58
   cases ml58 with
   | zero=>cases h
   | succ ml58 =>
   rw [DW] at h
   have hU:=l.unders
   simp only [List.mem_cons,List.not_mem_nil,or_false,forall_eq_or_imp,forall_eq] at hU
   refine Is hN ao ap HN (Ap (Fp v l.len) ow) l ow ow ?_
   refine rg [5,7,9,96,97,98,99] hs ?_
   apply Ah;intro K60 a6
   refine AN h hs (fun hs h=>?_) (fun hs h=>?_)
   rotate_left
   ·have ae:=hs.1
    refine D3 (Dz [] _) ?_ (Bm _ _)
    apply KG;simp +decide only [go_sem,Nat.reduceAdd]
    (repeat' with_reducible apply Aa)<;>first | exact cl | skip
    have hgt:=Option.some.inj h;subst hgt
    have hU:=l.unders
    simp only [List.mem_cons,List.not_mem_nil,or_false,forall_eq_or_imp,forall_eq] at hU
    refine R9 l (Ap (Fp v l.len) ow) HN ev ⟨?_,_,_,?_,(l.sub (List.sublist_append_left [_] _)).len1 EA⟩
    all_goals first | rfl | (simp +decide only [go_sem,Nat.reduceAdd,An a,c,d,ae];done) | (simp +decide only [go_sem,Nat.reduceAdd,Vl.cs,Ty.cs,An a,c,d,ae];done)
   have ae:=hs.1
   refine sk [5,7,9,96,97,98] hs a6 ?_
   clear a6
   refine Aw (fun e st=>∃ (K:List (ByteArray × Int)) (aa:Ev.Own) (Xk63:List (List AV)) (Rk63:List RowA),e=[(5,true,.box (B.length+1) 0),(7,true,.box (B.length+3) 0),(9,true,.clo 162 [.box (B.length+1) 0,.box (B.length+2) 0]),(96,true,.list (a0.fields.map Cm) .none),(97,true,.val (.int .i64 (a0.fields.length:Int))),(98,true,.val (.int .i64 Q))]∧st=⟨(B.set p ([.list (K.map JB) aa]))++([a0.cs,a1.cs,[.val (.string a2)],[.clo 96 [.box p 0]]]++Xk63),Rk63,L⟩∧Owns Rw Rk63 [(2,K.length,aa)] ak∧Gl rec n (DW rec n a0 a1 a2 ml58) Q K=some r) ?_ ?_
   ·intro K64 bc
    apply Ak
    obtain ⟨af,bk,h⟩:=bind_some h
    obtain ⟨ct,c1,bh⟩:=AA bk
    have J:=AB (f:=Cm) bh
    have hs:=Aa J hs
    refine rg [5,7,9,15,96,97,98] hs ?_
    obtain ⟨aj,cc,h⟩:=bind_some h
    refine rc 2 [5,7,9,15,17,96,97,98] hs ?_;intro K67 be
    refine Ai _ (EJ w0 n _ _ _ a1.fields af.1 _ cc) (hv hs) ?_
    refine ne hs be ?_
    clear be
    refine rg [5,7,9,15,96,97,98,111] hs ?_
    refine AN h hs (fun hs h=>?_) (fun hs h=>?_)
    ·have ah:=hs.1
     obtain ⟨cv,b5,h⟩:=bind_some h
     obtain ⟨ck,bp,h⟩:=bind_some h
     apply MN HH [5] [5,7,9,96,97,98] kr (fun s=>∃ (X:List (List AV)) (rows:List RowA) (x:List AV),s=⟨(B.set p x)++([a0.cs,a1.cs,[.val (.string a2)],[.clo 96 [.box p 0]],.val (.int .i64 af.1)::(.val (.string af.2.1)::(.val (.int .i64 af.2.2.1)::((af.2.2.2.1.cs)++([.list (af.2.2.2.2.map Bo) .none])))),.val (.int .i64 aj.1.1)::(.val (.string aj.1.2.1)::(.val (.int .i64 aj.1.2.2.1)::((aj.1.2.2.2.1.cs)++([.list (aj.1.2.2.2.2.map Bo) .none]))))]++X),rows,L⟩) 2 (B.length+6)
     ·simp +decide only [go_sem,Nat.reduceAdd]
     ·rintro s ⟨X,rows,x,rfl⟩
      refine ⟨2,?_⟩
      rw [Am];simp +decide only [go_sem,Nat.reduceAdd,Eh,An a,c,d,ae,J,ah]
      (repeat' apply Aa)<;>first | refine Ai _ (Ep w0 _ _ _ af.2.1 (B.length+1) a1 (ef hs) (B.length+2) a2 (ef hs) _ b5) (hv hs) ?_ | exact cl
      rw [Am];simp +decide only [go_sem,Nat.reduceAdd,An a,c,d,ae,J,ah]
      (repeat' apply Aa)<;>first | rfl | exact cl
     ·refine Good.mk [5] kr ⟨[],_,_,by first | rfl | simp only [List.append_nil,List.nil_append]⟩ ?_ ?_
      ·intro h;exact absurd h (by decide)
      ·intro i hi;simp only [List.mem_cons,List.not_mem_nil,or_false] at hi
       subst hi
       ·apply Jf rfl rfl ev rfl
        ·simp +decide only [go_sem,Nat.reduceAdd,An a,c,d,ae,J,ah]
        ·simp +decide only [go_sem,Nat.reduceAdd,An a,c,d,ae,J,ah]
        ·simp +decide only [go_sem,Nat.reduceAdd,An a,c,d,ae,J,ah]
         exact (CU w0 _ _ _ cv 2 p D H (ef hs) l.enter _ bp).pub (hv hs)
        ·rintro _ _ ⟨rfl,Rg73,bm,rfl,aw⟩
         have l:=l.call aw
         simp +decide only [go_sem,Nat.reduceAdd,An a,c,d,ae,J,ah]
         refine Good.mk [] kr ⟨[],_,_,by first | rfl | simp only [List.append_nil,List.nil_append]⟩ ?_ ?_
         ·intro _;refine ⟨_,_,CO [5,7,9,96,97,98] (by first | (simp +decide only [go_sem,Nat.reduceAdd,An a,c,d,ae,J,ah];done) | (simp +decide only [go_sem,Nat.reduceAdd,An a,c,d,ae,J,ah];rfl)),?_⟩
          try simp +decide only [go_sem,Nat.reduceAdd,An a,c,d,ae,J,ah]
          (repeat' apply Aa)<;>first | refine bc _ _ ⟨ck,bm,([.val (.int .i64 af.1)::(.val (.string af.2.1)::(.val (.int .i64 af.2.2.1)::((af.2.2.2.1.cs)++([.list (af.2.2.2.2.map Bo) .none])))),.val (.int .i64 aj.1.1)::(.val (.string aj.1.2.1)::(.val (.int .i64 aj.1.2.2.1)::((aj.1.2.2.2.1.cs)++([.list (aj.1.2.2.2.2.map Bo) .none]))))]),Rg73,ef hs,ef hs,Owns.of_eq (l) EA,h⟩ | exact cl
         ·intro i hi;cases hi
    have ah:=hs.1
    refine sk [5,7,9,96,97,98] hs bc ?_
    exact ⟨D,H,([.val (.int .i64 af.1)::(.val (.string af.2.1)::(.val (.int .i64 af.2.2.1)::((af.2.2.2.1.cs)++([.list (af.2.2.2.2.map Bo) .none])))),.val (.int .i64 aj.1.1)::(.val (.string aj.1.2.1)::(.val (.int .i64 aj.1.2.2.1)::((aj.1.2.2.2.1.cs)++([.list (aj.1.2.2.2.2.map Bo) .none]))))]),Rl58,ef hs,ef hs,Owns.of_eq (l) EA,h⟩
   ·clear h;rintro e st ⟨K,aa,Xk63,Rk63,rfl,rfl,l,h⟩
    rw [Gl] at h
    have hU:=l.unders
    simp only [List.mem_cons,List.not_mem_nil,or_false,forall_eq_or_imp,forall_eq] at hU
    refine Is hN ao ap HN (Ap (Fp v l.len) ow) l ow ow ?_
    obtain ⟨c8,h⟩:=Aj h
    refine rl [5,7,9,96,97,98] hs (fun e s=>Vl58 ml58 e s (Nat.lt_succ_self _)) ?_
    exact ⟨(Q+1),K,aa,([]),Rk63,ef hs,ef hs,Owns.of_eq (l) EA,h⟩
 have d:=hs.1
 refine rg [4,5,6,7,8,119] hs ?_
 refine AN h hs (fun hs h=>?_) (fun hs h=>?_)
 ·have w:=hs.1
  refine Aw (fun e st=>∃ (O:List (ByteArray × Int)) (Y:Ev.Own) (Xk79:List (List AV)) (Rk79:List RowA),e=[(4,true,.box B.length 0),(5,true,.box (B.length+1) 0),(6,true,.box (B.length+2) 0),(7,true,.box (B.length+3) 0)]∧st=⟨(B.set p ([.list (O.map JB) Y]))++([a0.cs,a1.cs,[.val (.string a2)],[.clo 96 [.box p 0]]]++Xk79),Rk79,L⟩∧Owns Rw Rk79 [(2,O.length,Y)] ak∧Gi rec n a0 a1 a2 O=some r) ?_ ?_
  ·intro K80 a7
   refine rg [4,5,6,7,8,134] hs ?_
   refine AN h hs (fun hs h=>?_) (fun hs h=>?_)
   ·obtain ⟨c2,b8,h⟩:=bind_some h
    refine rk 3 [4,5,6,7] hs ?_
    refine Ai _ (EE w0 _ _ _ a0 a1) (hv hs) ?_
    refine nc hs ?_
    refine BB _ (J4 w0 _ _ _ (C7 a0 a1) p a3 ak (ef hs) l.enter (B.length+3) (ef hs) (B.length+2) a2 (ef hs) _ b8) (hv hs) ?_;rintro _ _ ⟨rfl,Rg84,bt,rfl,ay⟩
    have l:=l.call ay
    refine ne hs a7 ?_
    exact ⟨c2,bt,([]),Rg84,ef hs,ef hs,Owns.of_eq (l) EA,h⟩
   refine sk [4,5,6,7] hs a7 ?_
   exact ⟨a3,ak,([]),Rw,ef hs,ef hs,Owns.of_eq (l) EA,h⟩
  ·clear h;rintro e st ⟨O,Y,Xk79,Rk79,rfl,rfl,l,h⟩
   rw [Gi] at h
   have hU:=l.unders
   simp only [List.mem_cons,List.not_mem_nil,or_false,forall_eq_or_imp,forall_eq] at hU
   refine Is hN ao ap HN (Ap (Fp v l.len) ow) l ow ow ?_
   obtain ⟨co,c3,cj,y,h⟩:=ix HF h
   have F:(a0.elem.map HF).getD 0 .junk=_:=y
   obtain ⟨c0,cp,cy,z,h⟩:=ix HF h
   have E:(a1.elem.map HF).getD 0 .junk=_:=z
   obtain ⟨br,h⟩:=Aj h
   have bj:=br
   try simp +decide only [go_sem] at bj
   obtain ⟨dc,b7,h⟩:=bind_some h
   apply MN HH [11] [] kr (fun s=>∃ (X:List (List AV)) (rows:List RowA) (x:List AV),s=⟨(B.set p x)++([a0.cs,a1.cs,[.val (.string a2)],[.clo 96 [.box p 0]]]++X),rows,L⟩) 2 (B.length+4)
   ·simp +decide only [go_sem,Nat.reduceAdd]
   ·rintro s ⟨X,rows,x,rfl⟩
    refine ⟨1,?_⟩
    rw [Am];simp +decide only [go_sem,Nat.reduceAdd,Eh,An a,c,d,w,y,F,z,E]
    (repeat' apply Aa)<;>first | rfl | exact cl
   ·refine Good.mk [11] kr ⟨[],_,_,by first | rfl | simp only [List.append_nil,List.nil_append]⟩ ?_ ?_
    ·intro h;exact absurd h (by decide)
    ·intro i hi;simp only [List.mem_cons,List.not_mem_nil,or_false] at hi
     subst hi
     ·apply Jf rfl rfl ev rfl
      ·simp +decide only [go_sem,Nat.reduceAdd,An a,c,d,w,y,F,z,E]
      ·simp +decide only [go_sem,Nat.reduceAdd,An a,c,d,w,y,F,z,E]
      ·simp +decide only [go_sem,Nat.reduceAdd,An a,c,d,w,y,F,z,E]
       have hs:=Aa y hs
       have hs:=Aa F hs
       have hs:=Aa z hs
       have hs:=Aa E hs
       exact (ih _ _ _ co c0 (a2++((⟨#[91,42,93]⟩:ByteArray))) p O Y (ef hs) l.enter _ b7).pub (hv hs)
      ·rintro _ _ ⟨rfl,Rg90,c6,rfl,ax⟩
       have l:=l.call ax
       simp +decide only [go_sem,Nat.reduceAdd,An a,c,d,w,y,F,z,E]
       refine Good.mk [] kr ⟨[],_,_,by first | rfl | simp only [List.append_nil,List.nil_append]⟩ ?_ ?_
       ·intro _;refine ⟨_,_,CO [] (by first | (simp +decide only [go_sem,Nat.reduceAdd,An a,c,d,w,y,F,z,E];done) | (simp +decide only [go_sem,Nat.reduceAdd,An a,c,d,w,y,F,z,E];rfl)),?_⟩
        try simp +decide only [go_sem,Nat.reduceAdd,An a,c,d,w,y,F,z,E]
        (repeat' with_reducible apply Aa)<;>first | exact cl | skip
        have hgt:=Option.some.inj h;subst hgt
        have hU:=l.unders
        simp only [List.mem_cons,List.not_mem_nil,or_false,forall_eq_or_imp,forall_eq] at hU
        refine R9 l (Ap (Fp v l.len) ow) HN ev ⟨?_,_,_,?_,(l.sub (List.sublist_append_left [_] _)).len1 EA⟩
        all_goals first | rfl | (simp +decide only [go_sem,Nat.reduceAdd,An a,c,d,w,y,F,z,E];done) | (simp +decide only [go_sem,Nat.reduceAdd,Vl.cs,Ty.cs,An a,c,d,w,y,F,z,E];done)
       ·intro i hi;cases hi
 have w:=hs.1
 obtain ⟨da,bv,h⟩:=bind_some h
 refine rc 2 [4,5,8,152] hs ?_;intro K92 a9
 refine Ai _ (Vh w0 n _ _ _ a0 a1 _ bv) (hv hs) ?_
 refine ne hs a9 ?_
 clear a9
 refine AN h hs (fun hs h=>?_) (fun hs h=>?_)
 ·have am:=hs.1
  obtain ⟨cn,b2,h⟩:=bind_some h
  obtain ⟨db,b3,h⟩:=bind_some h
  apply Ao 3 []
  rw [Am];simp +decide only [go_sem,Nat.reduceAdd,An a,c,d,w,am]
  (repeat' apply Aa)<;>first | refine Ai _ (E2 w0 n _ _ _ a0 a1 _ b2) (hv hs) ?_ | exact cl
  rw [Am];simp +decide only [go_sem,Nat.reduceAdd,An a,c,d,w,am]
  (repeat' apply Aa)<;>first | (refine BB _ (J4 w0 _ _ _ cn p a3 ak (ef hs) l.enter (B.length+3) (ef hs) (B.length+2) a2 (ef hs) _ b3) (hv hs) ?_;rintro _ _ ⟨rfl,Rg97,c5,rfl,av⟩) | exact cl
  have l:=l.call av
  rw [Am];simp +decide only [go_sem,Nat.reduceAdd,An a,c,d,w,am]
  (repeat' with_reducible apply Aa)<;>first | exact cl | skip
  have hgt:=Option.some.inj h;subst hgt
  have hU:=l.unders
  simp only [List.mem_cons,List.not_mem_nil,or_false,forall_eq_or_imp,forall_eq] at hU
  refine R9 l (Ap (Fp v l.len) ow) HN ev ⟨?_,_,_,?_,(l.sub (List.sublist_append_left [_] _)).len1 EA⟩
  all_goals first | rfl | (simp +decide only [go_sem,Nat.reduceAdd,An a,c,d,w,am];done) | (simp +decide only [go_sem,Nat.reduceAdd,Vl.cs,Ty.cs,An a,c,d,w,am];done)
 have am:=hs.1
 refine D3 (Dz [] _) ?_ (Bm _ _)
 apply Br;simp +decide only [go_sem,Nat.reduceAdd]
 (repeat' with_reducible apply Aa)<;>first | exact cl | skip
 have hgt:=Option.some.inj h;subst hgt
 have hU:=l.unders
 simp only [List.mem_cons,List.not_mem_nil,or_false,forall_eq_or_imp,forall_eq] at hU
 refine R9 l (Fp v l.len) rfl ev ⟨?_,_,_,?_,(l.sub (List.sublist_append_left [_] _)).len1 EA⟩
 all_goals first | rfl | (simp +decide only [go_sem,Nat.reduceAdd,An a,c,d,w,am];done) | (simp +decide only [go_sem,Nat.reduceAdd,Vl.cs,Ty.cs,An a,c,d,w,am];done)
theorem Lp (w0:World):∀ n:Nat,Jk w0 (Hu n)
 | 0=>fun _ _ _ _ _ _ _ _ _ _ _ _ h=>(nomatch h)
 | n+1=>PG w0 (Hu n) (Lp w0 n) n
def Jd (n:Nat) (h:Ty) (q:Ty):Option ((List (ByteArray × Int)) × Int) :=
 (C6 n h q).bind fun g =>
 if !(decide (g=0)) then
  some (([],g))
 else
  (Hu n h q ((⟨#[]⟩:ByteArray)) ([])).bind fun b =>
  some ((b,0))
theorem Re (w0:World) (hT:Lib.Utf8Tabs 0 1 w0) (n:Nat) (B:List (List AV)) (Rw:List RowA) (L:List LoopA) (a0:Ty) (a1:Ty) (r:(List (ByteArray × Int)) × Int) (h:Jd n a0 a1=some r) :
  ACalls Tryz.prog w0 42 [.agg (a0.cs),.agg (a1.cs)] ⟨B,Rw,L⟩ fun x st=>x = .tup [.list (r.1.map JB) .none,.val (.int .i64 r.2)]∧st=⟨B,Rw,L⟩:=by
 rw [Jd] at h
 refine hd [.tmp 4,.tmp 5] Tryz.func42 Tryz.ntmps42 fun M0 W0 q m l a p c hs=>?_
 simp only [Au]
 refine rg [2,3] hs ?_
 apply Ah;intro K2 g
 obtain ⟨o,i,h⟩:=bind_some h
 refine rc 2 [2,3,6] hs ?_;intro K3 f
 refine Ai _ (E0 w0 hT n _ _ _ a0 a1 _ i) (hv hs) ?_
 refine ne hs f ?_
 clear f
 refine rg [2,3,6,12] hs ?_
 refine AN h hs (fun hs h=>?_) (fun hs h=>?_)
 ·refine rg [4,5] hs ?_
  exact rt h hs a c
 refine sk [2,3] hs g ?_
 clear g
 refine rg [2,3,7] hs ?_
 have c:=c.full 2 0
 obtain ⟨k,e,h⟩:=bind_some h
 refine rc 2 [7] hs ?_;intro K9 d
 refine BB _ (Lp w0 n _ _ _ a0 a1 ((⟨#[]⟩:ByteArray)) (B.length+2) ([]) .full (ef hs) c.enter _ e) (hv hs) ?_;rintro _ _ ⟨rfl,Rg12,j,rfl,b⟩
 have c:=c.call b
 refine ne hs d ?_
 clear d
 refine rg [4,5] hs ?_
 exact rt h hs a c
def Gf  : Ty :=
 Ty.mk 9 0 0 0 ([]) ([]) ([(2,(⟨#[114,101,109,97,114,107]⟩:ByteArray),2,Ty.mk 4 0 40 0 ([]) ([]) ([]),[]),(1,(⟨#[105,100]⟩:ByteArray),1,Ty.mk 3 0 9999 2 ([]) ([]) ([]),[]),(3,(⟨#[107,105,110,100]⟩:ByteArray),3,Ty.mk 4 0 0 0 ([(⟨#[97]⟩:ByteArray),(⟨#[98]⟩:ByteArray)]) ([]) ([]),[Vl.mk 4 0 0 ((⟨#[97]⟩:ByteArray)) ([]) ([])])])
theorem VC (w0:World) (B:List (List AV)) (Rw:List RowA) (L:List LoopA)  (r:Ty) (h:Gf  = r) :
  ACalls Tryz.prog w0 73 [] ⟨B,Rw,L⟩ fun x st=>x = .agg (r.cs)∧st=⟨B,Rw,L⟩:=by
 rw [Gf] at h
 refine hd [.cell 0 26] Tryz.func73 Tryz.ntmps73 fun M0 W0 f d b a e c hs=>?_
 simp only [Au]
 refine rg [0] hs ?_
 refine rg [0,1] hs ?_
 refine rg [0] hs ?_
 exact rT h hs a c
theorem OM (w0:World) (B:List (List AV)) (Rw:List RowA) (L:List LoopA)  :
  ACalls Tryz.prog w0 73 [] ⟨B,Rw,L⟩ fun x st=>x = .agg ((Gf ).cs)∧st=⟨B,Rw,L⟩:=VC w0 B Rw L  _ rfl
def Gh  : Ty :=
 Ty.mk 9 0 0 0 ([]) ([]) ([(1,(⟨#[105,100]⟩:ByteArray),1,Ty.mk 2 0 99 0 ([]) ([]) ([]),[]),(2,(⟨#[110,111,116,101]⟩:ByteArray),2,Ty.mk 4 0 20 0 ([]) ([]) ([]),[])])
theorem VT (w0:World) (B:List (List AV)) (Rw:List RowA) (L:List LoopA)  (r:Ty) (h:Gh  = r) :
  ACalls Tryz.prog w0 72 [] ⟨B,Rw,L⟩ fun x st=>x = .agg (r.cs)∧st=⟨B,Rw,L⟩:=by
 rw [Gh] at h
 refine hd [.cell 0 26] Tryz.func72 Tryz.ntmps72 fun M0 W0 f d b a e c hs=>?_
 simp only [Au]
 refine rg [0] hs ?_
 refine rg [0] hs ?_
 exact rT h hs a c
theorem OL (w0:World) (B:List (List AV)) (Rw:List RowA) (L:List LoopA)  :
  ACalls Tryz.prog w0 72 [] ⟨B,Rw,L⟩ fun x st=>x = .agg ((Gh ).cs)∧st=⟨B,Rw,L⟩:=VT w0 B Rw L  _ rfl
def F8 (n:Nat)  : Option Bool :=
 (ED n (Gh ) (Gf ) (Vl.mk 9 0 0 ((⟨#[]⟩:ByteArray)) ([]) ([((⟨#[105,100]⟩:ByteArray),Vl.mk 2 5 0 ((⟨#[]⟩:ByteArray)) ([]) ([])),((⟨#[110,111,116,101]⟩:ByteArray),Vl.mk 4 0 0 ((⟨#[120]⟩:ByteArray)) ([]) ([]))]))).bind fun b =>
 (Jd n (Gh ) (Gf )).bind fun q =>
 if (decide (b.2=0))&&(decide ((b.1.fields.length:Int)=3)) then
  (B7 b.1.fields 0).bind fun x9 =>
  if Cb x9.1 ((⟨#[105,100]⟩:ByteArray)) then
   if decide (x9.2.int=500) then
    (B7 b.1.fields 1).bind fun s =>
    if Cb s.2.text ((⟨#[97]⟩:ByteArray)) then
     (B7 b.1.fields 2).bind fun y =>
     if ((Cb y.1 ((⟨#[114,101,109,97,114,107]⟩:ByteArray)))&&(decide (q.2=0)))&&(decide ((q.1.length:Int)=4)) then
      (B7 q.1 0).bind fun h =>
      if Cb h.1 ((⟨#[114,101,109,97,114,107]⟩:ByteArray))&&(decide (h.2=3)) then
       (B7 q.1 3).bind fun g =>
       some (Cb g.1 ((⟨#[107,105,110,100]⟩:ByteArray))&&(decide (g.2=1)))
      else
       some (false)
     else
      some (false)
    else
     some (false)
   else
    some (false)
  else
   some (false)
 else
  some (false)
theorem F4 (w0:World) (hP:Pow10 w0) (hT:Lib.Utf8Tabs 0 1 w0) (n:Nat) (B:List (List AV)) (Rw:List RowA) (L:List LoopA)  (r:Bool) (h:F8 n  = some r) :
  ACalls Tryz.prog w0 26 [] ⟨B,Rw,L⟩ fun x st=>x = .val (.bool r)∧st=⟨B,Rw,L⟩:=by
 rw [F8] at h
 refine hd [.tmp 0] Tryz.func26 Tryz.ntmps26 fun M0 W0 hN Y aa a hu o hs=>?_
 simp only [Au]
 refine rg [] hs ?_
 refine rg [1] hs ?_
 apply Ah;intro K3 t
 obtain ⟨q,C,h⟩:=bind_some h
 apply Ho HH [7,8] [2,3] kr (fun s=>∃ (X:List (List AV)) (rows:List RowA),s=⟨B++([[.val (.int .i64 9),.val (.int .i64 0),.val (.int .i64 0),.val (.string ((⟨#[]⟩:ByteArray))),.list ([]) .full,.list (([((⟨#[105,100]⟩:ByteArray),Vl.mk 2 5 0 ((⟨#[]⟩:ByteArray)) ([]) ([])),((⟨#[110,111,116,101]⟩:ByteArray),Vl.mk 4 0 0 ((⟨#[120]⟩:ByteArray)) ([]) ([]))]).map BM) .full]]++X),rows,L⟩) 3 (B.length+1)
 ·simp +decide only [go_sem,Nat.reduceAdd]
 ·rintro s ⟨X,rows,rfl⟩
  refine ⟨4,?_⟩
  rw [Am];simp +decide only [go_sem,Nat.reduceAdd,Eh]
  (repeat' apply Aa)<;>first | refine Ai _ (OL w0 _ _ _ ) (hv hs) ?_ | exact cl
  rw [Am];simp +decide only [go_sem,Nat.reduceAdd]
  (repeat' apply Aa)<;>first | refine Ai _ (OM w0 _ _ _ ) (hv hs) ?_ | exact cl
  rw [Am];simp +decide only [go_sem,Nat.reduceAdd]
  (repeat' apply Aa)<;>first | refine Ai _ (Ly w0 hP hT n _ _ _ (Gh ) (Gf ) (Vl.mk 9 0 0 ((⟨#[]⟩:ByteArray)) ([]) ([((⟨#[105,100]⟩:ByteArray),Vl.mk 2 5 0 ((⟨#[]⟩:ByteArray)) ([]) ([])),((⟨#[110,111,116,101]⟩:ByteArray),Vl.mk 4 0 0 ((⟨#[120]⟩:ByteArray)) ([]) ([]))])) _ C) (hv hs) ?_ | exact cl
  rw [Am];simp +decide only [go_sem,Nat.reduceAdd]
  (repeat' apply Aa)<;>first | rfl | exact cl
 ·refine Good.mk [7] kr ⟨[],_,by first | rfl | simp only [List.append_nil,List.nil_append]⟩ ?_ ?_
  ·intro h;exact absurd h (by decide)
  ·intro i hi;simp only [List.mem_cons,List.not_mem_nil,or_false] at hi
   subst hi
   ·apply BU rfl rfl ev
    ·simp +decide only [go_sem,Nat.reduceAdd,DU]
     (repeat' apply Aa)<;>first | rfl | exact cl
    ·simp +decide only [go_sem,Nat.reduceAdd]
     refine Good.mk [8] kr ⟨_,_,by first | rfl | simp only [List.append_nil,List.nil_append]⟩ ?_ ?_
     ·intro h;exact absurd h (by decide)
     ·intro i hi;simp only [List.mem_cons,List.not_mem_nil,or_false] at hi
      subst hi
      ·apply BU rfl rfl ev
       ·simp +decide only [go_sem,Nat.reduceAdd,DU]
        (repeat' apply Aa)<;>first | rfl | exact cl
       ·simp +decide only [go_sem,Nat.reduceAdd]
        refine Good.mk [] kr ⟨_,_,by first | rfl | simp only [List.append_nil,List.nil_append]⟩ ?_ ?_
        ·intro _;apply CO [2,3];first | (simp +decide only [go_sem,Nat.reduceAdd];done) | (simp +decide only [go_sem,Nat.reduceAdd];rfl)
        ·intro i hi;cases hi
 simp +decide only [go_sem,Nat.reduceAdd]
 (repeat' apply Aa)<;>first | refine t _ _ ?_ | exact cl
 clear t
 obtain ⟨w,G,h⟩:=bind_some h
 refine rc 4 [2,3,4,5] hs ?_;intro K5 u
 refine Ai _ (OL w0 _ _ _ ) (hv hs) ?_
 refine nc hs ?_
 refine Ai _ (OM w0 _ _ _ ) (hv hs) ?_
 refine nc hs ?_
 refine Ai _ (Re w0 hT n _ _ _ (Gh ) (Gf ) _ G) (hv hs) ?_
 refine ne hs u ?_
 clear u
 apply Ah;intro K7 b
 rcases Bool.eq_false_or_eq_true ((decide (q.2=0))&&(decide ((q.1.fields.length:Int)=3))) with hf8 | hf8
 ·replace h:=Ba h hf8
  obtain ⟨V,Q,U,d,h⟩:=ix BM h
  have e:(q.1.fields.map BM).getD 0 .junk=_:=d
  rcases Bool.eq_false_or_eq_true (Cb V.1 ((⟨#[105,100]⟩:ByteArray))) with hf10 | hf10
  ·replace h:=Ba h hf10
   rcases Bool.eq_false_or_eq_true (decide (V.2.int=500)) with hf11 | hf11
   ·replace h:=Ba h hf11
    obtain ⟨N,O,z,c,h⟩:=ix BM h
    have g:(q.1.fields.map BM).getD 1 .junk=_:=c
    rcases Bool.eq_false_or_eq_true (Cb N.2.text ((⟨#[97]⟩:ByteArray))) with hf13 | hf13
    ·replace h:=Ba h hf13
     obtain ⟨H,K,J,f,h⟩:=ix BM h
     have j:(q.1.fields.map BM).getD 2 .junk=_:=f
     rcases Bool.eq_false_or_eq_true (((Cb H.1 ((⟨#[114,101,109,97,114,107]⟩:ByteArray)))&&(decide (w.2=0)))&&(decide ((w.1.length:Int)=4))) with hf15 | hf15
     ·replace h:=Ba h hf15
      obtain ⟨v,F,y,k,h⟩:=ix JB h
      have l:(w.1.map JB).getD 0 .junk=_:=k
      rcases Bool.eq_false_or_eq_true (Cb v.1 ((⟨#[114,101,109,97,114,107]⟩:ByteArray))&&(decide (v.2=3))) with hf17 | hf17
      ·replace h:=Ba h hf17
       obtain ⟨Z,D,E,m,h⟩:=ix JB h
       have p:(w.1.map JB).getD 3 .junk=_:=m
       have hs:=Aa hf8 hs
       have hs:=Aa d hs
       have hs:=Aa e hs
       have hs:=Aa hf10 hs
       have hs:=Aa hf11 hs
       have hs:=Aa c hs
       have hs:=Aa g hs
       have hs:=Aa hf13 hs
       have hs:=Aa f hs
       have hs:=Aa j hs
       have hs:=Aa hf15 hs
       have hs:=Aa k hs
       have hs:=Aa l hs
       have hs:=Aa hf17 hs
       have hs:=Aa m hs
       have hs:=Aa p hs
       refine rl [0] (al hs) b ?_
       clear b
       exact rt h hs a o
      ·replace h:=A9 h hf17
       have hs:=Aa hf8 hs
       have hs:=Aa d hs
       have hs:=Aa e hs
       have hs:=Aa hf10 hs
       have hs:=Aa hf11 hs
       have hs:=Aa c hs
       have hs:=Aa g hs
       have hs:=Aa hf13 hs
       have hs:=Aa f hs
       have hs:=Aa j hs
       have hs:=Aa hf15 hs
       have hs:=Aa k hs
       have hs:=Aa l hs
       have hs:=Aa hf17 hs
       refine rl [0] (al hs) b ?_
       clear b
       exact rt h hs a o
     ·replace h:=A9 h hf15
      have hs:=Aa hf8 hs
      have hs:=Aa d hs
      have hs:=Aa e hs
      have hs:=Aa hf10 hs
      have hs:=Aa hf11 hs
      have hs:=Aa c hs
      have hs:=Aa g hs
      have hs:=Aa hf13 hs
      have hs:=Aa f hs
      have hs:=Aa j hs
      have hs:=Aa hf15 hs
      refine rl [0] (al hs) b ?_
      clear b
      exact rt h hs a o
    ·replace h:=A9 h hf13
     have hs:=Aa hf8 hs
     have hs:=Aa d hs
     have hs:=Aa e hs
     have hs:=Aa hf10 hs
     have hs:=Aa hf11 hs
     have hs:=Aa c hs
     have hs:=Aa g hs
     have hs:=Aa hf13 hs
     refine rl [0] (al hs) b ?_
     clear b
     exact rt h hs a o
   ·replace h:=A9 h hf11
    have hs:=Aa hf8 hs
    have hs:=Aa d hs
    have hs:=Aa e hs
    have hs:=Aa hf10 hs
    have hs:=Aa hf11 hs
    refine rl [0] (al hs) b ?_
    clear b
    exact rt h hs a o
  ·replace h:=A9 h hf10
   have hs:=Aa hf8 hs
   have hs:=Aa d hs
   have hs:=Aa e hs
   have hs:=Aa hf10 hs
   refine rl [0] (al hs) b ?_
   clear b
   exact rt h hs a o
 ·replace h:=A9 h hf8
  have hs:=Aa hf8 hs
  refine rl [0] (al hs) b ?_
  clear b
  exact rt h hs a o
theorem Zd2 (m:Nat):F8 (m+100)=some true:=by kernel_rfl
theorem ZbE (n:Nat) (h:100≤n):F8 n=some true:=by
 obtain ⟨m,rfl⟩:∃ m,n=m+100:=⟨n-100,by omega⟩
 exact Zd2 m
@[go_sem] theorem Zlj (a b:Ty):List.take 14 (a.cs++b.cs)=a.cs++b.cs:=List.take_of_length_le (by simp [Ty.cs_length])
@[go_sem] theorem ZmR (a b:Ty):List.map AV.pubCell (a.cs++b.cs)=a.cs++b.cs:=by rw [List.map_append,Ty.cs_pub,Ty.cs_pub]
theorem ZQ (n:Nat) (v:Vl) (h:v.size≤4096) (hn:10000≤n):Hl n v v=some true:=by
 obtain ⟨c,e,a⟩:=Zb5 n v v (by omega) (by omega)
 rw [e,a.2 rfl]
def Eo (n:Nat) (g:Ty) (b:Ty):Option Bool :=
 (C6 n g b).bind fun q =>
 if decide (q=0) then
  (AK n g b).bind fun h =>
  some (h)
 else
  some (false)
theorem JP (w0:World) (hT:Lib.Utf8Tabs 0 1 w0) (n:Nat) (B:List (List AV)) (Rw:List RowA) (L:List LoopA) (a0:Ty) (a1:Ty) (r:Bool) (h:Eo n a0 a1=some r) :
  ACalls Tryz.prog w0 36 [.agg (a0.cs),.agg (a1.cs)] ⟨B,Rw,L⟩ fun x st=>x = .val (.bool r)∧st=⟨B,Rw,L⟩:=by
 rw [Eo] at h
 refine hd [.tmp 4] Tryz.func36 Tryz.ntmps36 fun M0 W0 l g f a k e hs=>?_
 simp only [Au]
 refine rg [2,3] hs ?_
 apply Ah;intro K2 b
 obtain ⟨i,c,h⟩:=bind_some h
 rcases Bool.eq_false_or_eq_true (decide (i=0)) with hf4 | hf4
 ·replace h:=Ba h hf4
  obtain ⟨j,d,h⟩:=bind_some h
  have hs:=Aa hf4 hs
  refine rk 3 [4] hs ?_
  refine Ai _ (E0 w0 hT n _ _ _ a0 a1 _ c) (hv hs) ?_
  refine nc hs ?_
  refine Ai _ (E2 w0 n _ _ _ a0 a1 _ d) (hv hs) ?_
  refine ne hs b ?_
  clear b
  exact rt h hs a e
 ·replace h:=A9 h hf4
  have hs:=Aa hf4 hs
  refine rk 3 [4] hs ?_
  refine Ai _ (E0 w0 hT n _ _ _ a0 a1 _ c) (hv hs) ?_
  refine nc hs ?_
  refine AD ?_
  refine ne hs b ?_
  clear b
  exact rt h hs a e
def E7 (n:Nat) (g:Ty) (b:Ty):Option Bool :=
 (C6 n g b).bind fun q =>
 if decide (q=0) then
  (CM n g b).bind fun h =>
  some (h)
 else
  some (false)
theorem PZ (w0:World) (hT:Lib.Utf8Tabs 0 1 w0) (n:Nat) (B:List (List AV)) (Rw:List RowA) (L:List LoopA) (a0:Ty) (a1:Ty) (r:Bool) (h:E7 n a0 a1=some r) :
  ACalls Tryz.prog w0 40 [.agg (a0.cs),.agg (a1.cs)] ⟨B,Rw,L⟩ fun x st=>x = .val (.bool r)∧st=⟨B,Rw,L⟩:=by
 rw [E7] at h
 refine hd [.tmp 4] Tryz.func40 Tryz.ntmps40 fun M0 W0 l g f a k e hs=>?_
 simp only [Au]
 refine rg [2,3] hs ?_
 apply Ah;intro K2 b
 obtain ⟨i,c,h⟩:=bind_some h
 rcases Bool.eq_false_or_eq_true (decide (i=0)) with hf4 | hf4
 ·replace h:=Ba h hf4
  obtain ⟨j,d,h⟩:=bind_some h
  have hs:=Aa hf4 hs
  refine rk 3 [4] hs ?_
  refine Ai _ (E0 w0 hT n _ _ _ a0 a1 _ c) (hv hs) ?_
  refine nc hs ?_
  refine Ai _ (N4 w0 n _ _ _ a0 a1 _ d) (hv hs) ?_
  refine ne hs b ?_
  clear b
  exact rt h hs a e
 ·replace h:=A9 h hf4
  have hs:=Aa hf4 hs
  refine rk 3 [4] hs ?_
  refine Ai _ (E0 w0 hT n _ _ _ a0 a1 _ c) (hv hs) ?_
  refine nc hs ?_
  refine AD ?_
  refine ne hs b ?_
  clear b
  exact rt h hs a e
def H6 (n:Nat)  (b2_k77_6:List (Int × ByteArray × Int × Ty × List Vl)):Option Bool :=
 some (true)
def BZ (n:Nat) (g:(Vl × Int)) (y:(Vl × Int)) (h:Int × ByteArray × Int × Ty × List Vl):Nat→Int→(List (Int × ByteArray × Int × Ty × List Vl))→Option Bool
 | 0,_,_=>none
 | m+1,b,b2_l80_6 =>
  if decide (b<(g.1.fields.length:Int)) then
   (B7 g.1.fields b).bind fun s =>
   (HY n y.1 s.1).bind fun q =>
   if q.2 != (!(Cb s.1 h.2.1)) then
    some (false)
   else
    if q.2 then
     (Hl n q.1 s.2).bind fun y93 =>
     if !y93 then
      some (false)
     else
      if BQ (b+1) then
       (BZ n g y h m) (b+1) b2_l80_6
      else none
    else
     if BQ (b+1) then
      (BZ n g y h m) (b+1) b2_l80_6
     else none
  else
   H6 n b2_l80_6
def DV (n:Nat) (q:(Vl × Int)) (b:(Vl × Int)) (g:Int × ByteArray × Int × Ty × List Vl) (b2_k61_6:List (Int × ByteArray × Int × Ty × List Vl)) (b5_k61:Vl):Option Bool :=
 (EX n b5_k61).bind fun h =>
 if !(decide (h=0)) then
  some (decide (b.2=9))
 else
  if !(decide (b.2=0)) then
   some (false)
  else
   BZ n q b g n 0 b2_k61_6
def Hq (n:Nat) (b:Ty) (g:Int) (a2:Vl):Option Bool :=
 (F8 n ).bind fun y4 =>
 if !y4 then
  (F8 n ).bind fun y8 =>
  some (y8)
 else
  (La n b).bind fun y9 =>
  if !y9 then
   (F8 n ).bind fun y13 =>
   some (y13)
  else
   (OZ a2).bind fun y14 =>
   if ((!y14)||(!(decide (b.kind=9))))||(decide ((b.fields.length:Int)<2)) then
    (F8 n ).bind fun y18 =>
    some (y18)
   else
    (EG n b).bind fun y =>
    if !(decide (y=0)) then
     (F8 n ).bind fun y22 =>
     some (y22)
    else
     if BQ (g) then
      if (b.fields.length:Int)≠0 then
       if 0≤0∧0≤g.tmod (b.fields.length:Int)∧g.tmod (b.fields.length:Int)≤(b.fields.length:Int) then
        if (0+(b.fields.take (g.tmod (b.fields.length:Int)).toNat).length)*160≤140737488355328∧0+(b.fields.take (g.tmod (b.fields.length:Int)).toNat).length≤4611686018427387904 then
         if BQ ((g.tmod (b.fields.length:Int))+1) then
          if 0≤(g.tmod (b.fields.length:Int))+1∧(g.tmod (b.fields.length:Int))+1≤(b.fields.length:Int)∧(b.fields.length:Int)≤(b.fields.length:Int) then
           if ((b.fields.take (g.tmod (b.fields.length:Int)).toNat).length+(b.fields.drop ((g.tmod (b.fields.length:Int))+1).toNat).length)*160≤140737488355328∧(b.fields.take (g.tmod (b.fields.length:Int)).toNat).length+(b.fields.drop ((g.tmod (b.fields.length:Int))+1).toNat).length≤4611686018427387904 then
            (Eo n b (Ty.mk b.kind b.min b.max b.scale b.words b.elem ((b.fields.take (g.tmod (b.fields.length:Int)).toNat)++(b.fields.drop ((g.tmod (b.fields.length:Int))+1).toNat)))).bind fun y42 =>
            if !y42 then
             some (false)
            else
             (E7 n b (Ty.mk b.kind b.min b.max b.scale b.words b.elem ((b.fields.take (g.tmod (b.fields.length:Int)).toNat)++(b.fields.drop ((g.tmod (b.fields.length:Int))+1).toNat)))).bind fun y46 =>
             if y46 then
              some (false)
             else
              (FC n b a2).bind fun h =>
              (ED n b (Ty.mk b.kind b.min b.max b.scale b.words b.elem ((b.fields.take (g.tmod (b.fields.length:Int)).toNat)++(b.fields.drop ((g.tmod (b.fields.length:Int))+1).toNat))) a2).bind fun s =>
              if !(decide (h.2=0)) then
               some (decide (s.2=h.2))
              else
               (B7 b.fields (g.tmod (b.fields.length:Int))).bind fun q =>
               (JC n h.1 q.2.1).bind fun y59 =>
               (HY n h.1 q.2.1).bind fun y64 =>
               if !y64.2 then
                DV n h s q ((b.fields.take (g.tmod (b.fields.length:Int)).toNat)++(b.fields.drop ((g.tmod (b.fields.length:Int))+1).toNat)) h.1
               else
                DV n h s q ((b.fields.take (g.tmod (b.fields.length:Int)).toNat)++(b.fields.drop ((g.tmod (b.fields.length:Int))+1).toNat)) y59.1
           else none
          else none
         else none
        else none
       else none
      else none
     else none
theorem QT (w0:World) (hP:Pow10 w0) (hT:Lib.Utf8Tabs 0 1 w0) (n:Nat) (B:List (List AV)) (Rw:List RowA) (L:List LoopA) (a0:Ty) (a1:Int) (a2:Vl) (r:Bool) (h:Hq n a0 a1 a2=some r) :
  ACalls Tryz.prog w0 10 [.agg (a0.cs),.val (.int .u8 a1),.agg (a2.cs)] ⟨B,Rw,L⟩ fun x st=>x = .val (.bool r)∧st=⟨B,Rw,L⟩:=by
 rw [Hq] at h
 refine hd [.tmp 6] Tryz.func10 Tryz.ntmps10 fun M0 W0 hN ay a5 k hu w hs=>?_
 simp only [Au]
 refine rg [1,3,5] hs ?_
 apply Ah;intro K2 be
 apply Ah;intro K3 J
 obtain ⟨y4,V,h⟩:=bind_some h
 rcases Bool.eq_false_or_eq_true (!y4) with hf5 | hf5
 ·replace h:=Ba h hf5
  have hs:=Aa hf5 hs
  refine rk 5 [1,3,5,47] hs ?_
  refine Ai _ (F4 w0 hP hT n _ _ _  _ V) (hv hs) ?_
  refine nc hs ?_
  refine AD ?_
  refine nc hs ?_
  refine AD ?_
  refine nc hs ?_
  refine AD ?_
  refine ne hs J ?_
  clear J
  refine A4 true ev (ef hs) (fun hb6=>?_) (fun hb6=>by cases hb6)
  obtain ⟨y8,bn,h⟩:=bind_some h
  refine rc 2 [6] hs ?_;intro K7 bi
  refine Ai _ (F4 w0 hP hT n _ _ _  _ bn) (hv hs) ?_
  refine ne hs bi ?_
  clear bi
  exact rt h hs k w
 ·replace h:=A9 h hf5
  obtain ⟨y9,az,h⟩:=bind_some h
  rcases Bool.eq_false_or_eq_true (!y9) with hf10 | hf10
  ·replace h:=Ba h hf10
   have hs:=Aa hf5 hs
   have hs:=Aa hf10 hs
   refine rk 5 [1,3,5,47] hs ?_
   refine Ai _ (F4 w0 hP hT n _ _ _  _ V) (hv hs) ?_
   refine nc hs ?_
   refine Ai _ (Ou w0 n _ _ _ a0 _ az) (hv hs) ?_
   refine nc hs ?_
   refine AD ?_
   refine nc hs ?_
   refine AD ?_
   refine ne hs J ?_
   clear J
   refine A4 true ev (ef hs) (fun hb11=>?_) (fun hb11=>by cases hb11)
   obtain ⟨b3,a8,h⟩:=bind_some h
   refine rc 2 [6] hs ?_;intro K12 aa
   refine Ai _ (F4 w0 hP hT n _ _ _  _ a8) (hv hs) ?_
   refine ne hs aa ?_
   clear aa
   exact rt h hs k w
  ·replace h:=A9 h hf10
   obtain ⟨bs,ab,h⟩:=bind_some h
   rcases Bool.eq_false_or_eq_true (((!bs)||(!(decide (a0.kind=9))))||(decide ((a0.fields.length:Int)<2))) with hf15 | hf15
   ·replace h:=Ba h hf15
    have hs:=Aa hf5 hs
    have hs:=Aa hf10 hs
    have hs:=Aa hf15 hs
    refine rk 5 [1,3,5,47] hs ?_
    refine Ai _ (F4 w0 hP hT n _ _ _  _ V) (hv hs) ?_
    refine nc hs ?_
    refine Ai _ (Ou w0 n _ _ _ a0 _ az) (hv hs) ?_
    refine nc hs ?_
    refine Ai _ (WA w0 _ _ _ a2 _ ab) (hv hs) ?_
    refine nc hs ?_
    refine AD ?_
    refine ne hs J ?_
    clear J
    refine A4 true ev (ef hs) (fun hb16=>?_) (fun hb16=>by cases hb16)
    obtain ⟨b9,bk,h⟩:=bind_some h
    refine rc 2 [6] hs ?_;intro K17 aw
    refine Ai _ (F4 w0 hP hT n _ _ _  _ bk) (hv hs) ?_
    refine ne hs aw ?_
    clear aw
    exact rt h hs k w
   ·replace h:=A9 h hf15
    obtain ⟨b8,bc,h⟩:=bind_some h
    have hs:=Aa hf5 hs
    have hs:=Aa hf10 hs
    have hs:=Aa hf15 hs
    refine rk 5 [1,3,5,47] hs ?_
    refine Ai _ (F4 w0 hP hT n _ _ _  _ V) (hv hs) ?_
    refine nc hs ?_
    refine Ai _ (Ou w0 n _ _ _ a0 _ az) (hv hs) ?_
    refine nc hs ?_
    refine Ai _ (WA w0 _ _ _ a2 _ ab) (hv hs) ?_
    refine nc hs ?_
    refine Ai _ (Qb w0 hT n _ _ _ a0 _ bc) (hv hs) ?_
    refine ne hs J ?_
    clear J
    refine AN h hs (fun hs h=>?_) (fun hs h=>?_)
    ·have d:=hs.1
     obtain ⟨b4,bb,h⟩:=bind_some h
     refine rc 2 [6] hs ?_;intro K21 ag
     refine Ai _ (F4 w0 hP hT n _ _ _  _ bb) (hv hs) ?_
     refine ne hs ag ?_
     clear ag
     exact rt h hs k w
    have d:=hs.1
    refine sk [1,3,5] hs be ?_
    clear be
    obtain ⟨bz,h⟩:=Aj h
    obtain ⟨bw,h⟩:=Aj h
    refine rg [3,5,7] hs ?_
    refine rg [3,5,7,8] hs ?_
    apply Ah;intro K27 ao
    obtain ⟨bx,h⟩:=Aj h
    obtain ⟨av,h⟩:=Aj h
    have w:=w.full 11 0
    obtain ⟨ca,bm,w,b⟩:=w.append (P:=Tryz.prog) Z9 (by rw [Uz];rfl) (by decide) ((a0.fields.take (a1.tmod (a0.fields.length:Int)).toNat).length) av.1 av.2
    simp only [Nat.zero_add] at w
    replace b:=fun (ys:List AV) B L o2=>b ([]) ys B L o2 EA
    replace b:=fun B L o2=>b ((a0.fields.take (a1.tmod (a0.fields.length:Int)).toNat).map Cm) B L o2 EA ev
    try simp only [List.mem_singleton,List.mem_cons,List.not_mem_nil,or_false,forall_eq_or_imp,forall_eq,List.map_append,List.map_cons,List.map_nil,FP,FN,Fz,FB,FK,Fa,Ea,Eb,FA,Db,Da,Ed,Ek,Ef] at b
    obtain ⟨b0,h⟩:=Aj h
    obtain ⟨bv,h⟩:=Aj h
    obtain ⟨ax,h⟩:=Aj h
    obtain ⟨Y,O,w,a⟩:=w.append (P:=Tryz.prog) Z9 (by rw [Uz];rfl) (by decide) ((a0.fields.drop ((a1.tmod (a0.fields.length:Int))+1).toNat).length) ax.1 ax.2
    replace a:=fun (ys:List AV) B L o2=>a ((a0.fields.take (a1.tmod (a0.fields.length:Int)).toNat).map Cm) ys B L o2 EA
    replace a:=fun B L o2=>a ((a0.fields.drop ((a1.tmod (a0.fields.length:Int))+1).toNat).map Cm) B L o2 EA ev
    try simp only [List.mem_singleton,List.mem_cons,List.not_mem_nil,or_false,forall_eq_or_imp,forall_eq,List.map_append,List.map_cons,List.map_nil,FP,FN,Fz,FB,FK,Fa,Ea,Eb,FA,Db,Da,Ed,Ek,Ef] at a
    apply Ho HH [5,11,13] [3,5,7,8] kr (fun s=>∃ (X:List (List AV)) (rows:List RowA) (c2:List AV),s=⟨B++([a0.cs,a2.cs,c2]++X),rows,L⟩) 4 (B.length+3)
    ·simp +decide only [go_sem,Nat.reduceAdd]
    ·rintro s ⟨X,rows,c2,rfl⟩
     refine ⟨1,?_⟩
     rw [Am];simp +decide only [go_sem,Nat.reduceAdd,Eh,hf5,hf10,hf15,d,b,a,Ty.cs_eqs a0]
     (repeat' apply Aa)<;>first | rfl | exact cl | exact .inr trivial
    ·refine Good.mk [5] kr ⟨[],_,_,by first | rfl | (simp only [List.append_nil,List.map_append,Ty.cs_eqs a0];first | done | rfl) | simp only [List.append_nil,List.nil_append]⟩ ?_ ?_
     ·intro h;exact absurd h (by decide)
     ·intro i hi;simp only [List.mem_cons,List.not_mem_nil,or_false] at hi
      subst hi
      ·apply BU rfl rfl ev
       ·simp +decide only [go_sem,Nat.reduceAdd,DU,hf5,hf10,hf15,d,b,a,Ty.cs_eqs a0]
        (repeat' apply Aa)<;>first | rfl | exact cl | exact .inr trivial
       ·simp +decide only [go_sem,Nat.reduceAdd,hf5,hf10,hf15,d,b,a,Ty.cs_eqs a0]
        refine Good.mk [11] kr ⟨[],_,_,by first | rfl | (simp only [List.append_nil,List.map_append,Ty.cs_eqs a0];first | done | rfl) | simp only [List.append_nil,List.nil_append]⟩ ?_ ?_
        ·intro h;exact absurd h (by decide)
        ·intro i hi;simp only [List.mem_cons,List.not_mem_nil,or_false] at hi
         subst hi
         ·apply BU rfl rfl ev
          ·simp +decide only [go_sem,Nat.reduceAdd,DU,hf5,hf10,hf15,d,b,a,Ty.cs_eqs a0]
           (repeat' apply Aa)<;>first | rfl | exact cl | exact .inr trivial
          ·simp +decide only [go_sem,Nat.reduceAdd,hf5,hf10,hf15,d,b,a,Ty.cs_eqs a0]
           refine Good.mk [13] kr ⟨[],_,_,by first | rfl | (simp only [List.append_nil,List.map_append,Ty.cs_eqs a0];first | done | rfl) | simp only [List.append_nil,List.nil_append]⟩ ?_ ?_
           ·intro h;exact absurd h (by decide)
           ·intro i hi;simp only [List.mem_cons,List.not_mem_nil,or_false] at hi
            subst hi
            ·apply BU rfl rfl ev
             ·simp +decide only [go_sem,Nat.reduceAdd,DU,hf5,hf10,hf15,d,b,a,Ty.cs_eqs a0]
              (repeat' apply Aa)<;>first | rfl | exact cl | exact .inr trivial
             ·simp +decide only [go_sem,Nat.reduceAdd,hf5,hf10,hf15,d,b,a,Ty.cs_eqs a0]
              refine Good.mk [] kr ⟨[],_,_,by first | rfl | (simp only [List.append_nil,List.map_append,Ty.cs_eqs a0];first | done | rfl) | simp only [List.append_nil,List.nil_append]⟩ ?_ ?_
              ·intro _;apply CO [3,5,7,8];first | (simp +decide only [go_sem,Nat.reduceAdd,hf5,hf10,hf15,d,b,a,Ty.cs_eqs a0];done) | (simp +decide only [go_sem,Nat.reduceAdd,hf5,hf10,hf15,d,b,a,Ty.cs_eqs a0];rfl)
              ·intro i hi;cases hi
    simp +decide only [go_sem,Nat.reduceAdd,hf5,hf10,hf15,d,b,a,Ty.cs_eqs a0]
    (repeat' apply Aa)<;>first | refine ao _ _ ?_ | exact cl | exact .inr trivial
    clear ao
    apply Ah;intro K40 aq
    apply Ah;intro K41 K
    obtain ⟨bt,am,h⟩:=bind_some h
    rcases Bool.eq_false_or_eq_true (!bt) with hf43 | hf43
    ·replace h:=Ba h hf43
     have hs:=Aa b hs
     have hs:=Aa a hs
     have hs:=Aa (Ty.cs_eqs a0) hs
     have hs:=Aa hf43 hs
     refine rk 3 [3,5,7,8,77] hs ?_
     refine Ai _ (JP w0 hT n _ _ _ a0 (Ty.mk a0.kind a0.min a0.max a0.scale a0.words a0.elem ((a0.fields.take (a1.tmod (a0.fields.length:Int)).toNat)++(a0.fields.drop ((a1.tmod (a0.fields.length:Int))+1).toNat))) _ am) (hv hs) ?_
     refine nc hs ?_
     refine AD ?_
     refine ne hs K ?_
     clear K
     refine A4 true ev (ef hs) (fun hb44=>?_) (fun hb44=>by cases hb44)
     refine rg [6] hs ?_
     exact rt h hs k w
    ·replace h:=A9 h hf43
     obtain ⟨b5,bg,h⟩:=bind_some h
     have hs:=Aa b hs
     have hs:=Aa a hs
     have hs:=Aa (Ty.cs_eqs a0) hs
     have hs:=Aa hf43 hs
     refine rk 3 [3,5,7,8,77] hs ?_
     refine Ai _ (JP w0 hT n _ _ _ a0 (Ty.mk a0.kind a0.min a0.max a0.scale a0.words a0.elem ((a0.fields.take (a1.tmod (a0.fields.length:Int)).toNat)++(a0.fields.drop ((a1.tmod (a0.fields.length:Int))+1).toNat))) _ am) (hv hs) ?_
     refine nc hs ?_
     refine Ai _ (PZ w0 hT n _ _ _ a0 (Ty.mk a0.kind a0.min a0.max a0.scale a0.words a0.elem ((a0.fields.take (a1.tmod (a0.fields.length:Int)).toNat)++(a0.fields.drop ((a1.tmod (a0.fields.length:Int))+1).toNat))) _ bg) (hv hs) ?_
     refine ne hs K ?_
     clear K
     refine AN h hs (fun hs h=>?_) (fun hs h=>?_)
     ·have g:=hs.1
      refine rg [6] hs ?_
      exact rt h hs k w
     have g:=hs.1
     refine sk [3,5,7,8] hs aq ?_
     clear aq
     obtain ⟨E,a7,h⟩:=bind_some h
     refine rc 2 [3,5,7,8,9,10] hs ?_;intro K49 ah
     refine Ai _ (NZ w0 hP hT n _ _ _ a0 a2 _ a7) (hv hs) ?_
     refine ne hs ah ?_
     clear ah
     obtain ⟨F,bl,h⟩:=bind_some h
     refine rc 2 [3,7,9,10,11,12] hs ?_;intro K51 ap
     refine Ai _ (Ly w0 hP hT n _ _ _ a0 (Ty.mk a0.kind a0.min a0.max a0.scale a0.words a0.elem ((a0.fields.take (a1.tmod (a0.fields.length:Int)).toNat)++(a0.fields.drop ((a1.tmod (a0.fields.length:Int))+1).toNat))) a2 _ bl) (hv hs) ?_
     refine ne hs ap ?_
     clear ap
     apply Ah;intro K53 ad
     refine rg [3,7,9,10,11,12,92] hs ?_
     refine AN h hs (fun hs h=>?_) (fun hs h=>?_)
     ·have f:=hs.1
      refine rg [6] hs ?_
      exact rt h hs k w
     have f:=hs.1
     refine sk [3,7,9,11,12] hs ad ?_
     clear ad
     apply Ah;intro K57 af
     obtain ⟨U,br,bq,c,h⟩:=ix Cm h
     obtain ⟨a3,bj,h⟩:=bind_some h
     apply Ho HH [11,12] [3,7,9,11,12,13] kr (fun s=>∃ (X:List (List AV)) (rows:List RowA),s=⟨B++([a0.cs,a2.cs,[.val (.int .i64 a0.kind),.val (.int .i64 a0.min),.val (.int .i64 a0.max),.val (.int .i64 a0.scale),.list (a0.words.map Lq) .none,.list (a0.elem.map HF) .none,.list (((a0.fields.take (a1.tmod (a0.fields.length:Int)).toNat)++(a0.fields.drop ((a1.tmod (a0.fields.length:Int))+1).toNat)).map Cm) Y],E.1.cs,F.1.cs]++X),rows,L⟩) 3 (B.length+5)
     ·simp +decide only [go_sem,Nat.reduceAdd]
     ·rintro s ⟨X,rows,rfl⟩
      refine ⟨2,?_⟩
      rw [Am];simp +decide only [go_sem,Nat.reduceAdd,Eh,hf5,hf10,hf15,d,b,a,Ty.cs_eqs a0,hf43,g,f,c]
      have hs:=Aa c hs
      (repeat' apply Aa)<;>first | refine Ai _ (XY w0 n _ _ _ E.1 U.2.1 _ bj) (hv hs) ?_ | exact cl | exact .inr trivial
      rw [Am];simp +decide only [go_sem,Nat.reduceAdd,hf5,hf10,hf15,d,b,a,Ty.cs_eqs a0,hf43,g,f,c]
      (repeat' apply Aa)<;>first | rfl | exact cl | exact .inr trivial
     ·refine Good.mk [11] kr ⟨[],_,by first | rfl | (simp only [List.append_nil,List.map_append,Ty.cs_eqs a0];first | done | rfl) | simp only [List.append_nil,List.nil_append]⟩ ?_ ?_
      ·intro h;exact absurd h (by decide)
      ·intro i hi;simp only [List.mem_cons,List.not_mem_nil,or_false] at hi
       subst hi
       ·apply BU rfl rfl ev
        ·simp +decide only [go_sem,Nat.reduceAdd,DU,hf5,hf10,hf15,d,b,a,Ty.cs_eqs a0,hf43,g,f,c]
         (repeat' apply Aa)<;>first | rfl | exact cl | exact .inr trivial
        ·simp +decide only [go_sem,Nat.reduceAdd,hf5,hf10,hf15,d,b,a,Ty.cs_eqs a0,hf43,g,f,c]
         refine Good.mk [12] kr ⟨_,_,by first | rfl | (simp only [List.append_nil,List.map_append,Ty.cs_eqs a0];first | done | rfl) | simp only [List.append_nil,List.nil_append]⟩ ?_ ?_
         ·intro h;exact absurd h (by decide)
         ·intro i hi;simp only [List.mem_cons,List.not_mem_nil,or_false] at hi
          subst hi
          ·apply BU rfl rfl ev
           ·simp +decide only [go_sem,Nat.reduceAdd,DU,hf5,hf10,hf15,d,b,a,Ty.cs_eqs a0,hf43,g,f,c]
            (repeat' apply Aa)<;>first | rfl | exact cl | exact .inr trivial
           ·simp +decide only [go_sem,Nat.reduceAdd,hf5,hf10,hf15,d,b,a,Ty.cs_eqs a0,hf43,g,f,c]
            refine Good.mk [] kr ⟨_,_,by first | rfl | (simp only [List.append_nil,List.map_append,Ty.cs_eqs a0];first | done | rfl) | simp only [List.append_nil,List.nil_append]⟩ ?_ ?_
            ·intro _;apply CO [3,7,9,11,12,13];first | (simp +decide only [go_sem,Nat.reduceAdd,hf5,hf10,hf15,d,b,a,Ty.cs_eqs a0,hf43,g,f,c];done) | (simp +decide only [go_sem,Nat.reduceAdd,hf5,hf10,hf15,d,b,a,Ty.cs_eqs a0,hf43,g,f,c];rfl)
            ·intro i hi;cases hi
     simp +decide only [go_sem,Nat.reduceAdd,hf5,hf10,hf15,d,b,a,Ty.cs_eqs a0,hf43,g,f,c]
     (repeat' apply Aa)<;>first | refine af _ _ ?_ | exact cl | exact .inr trivial
     clear af
     refine Aw (fun e st=>∃ (p:List (Int × ByteArray × Int × Ty × List Vl)) (t:Vl) (q:Ev.Own) (G:List AV),Ck e st B Rw L [(3,true,.box B.length 0),(7,true,.val (.int .i64 (a1.tmod (a0.fields.length:Int)))),(9,true,.box (B.length+3) 0),(11,true,.box (B.length+4) 0),(12,true,.val (.int .i64 F.2)),(13,true,.box (B.length+5) 0)] [a0.cs,a2.cs,[.val (.int .i64 a0.kind),.val (.int .i64 a0.min),.val (.int .i64 a0.max),.val (.int .i64 a0.scale),.list (a0.words.map Lq) .none,.list (a0.elem.map HF) .none,.list (p.map Cm) q],E.1.cs,F.1.cs,G] [(11,p.length,q)] (G.map AV.pubCell=t.cs∧DV n E F U p t=some r)) ?_ ?_
     ·intro K62 ak
      apply Ah;intro K63 au
      obtain ⟨ba,a6,h⟩:=bind_some h
      apply Ho HH [11,12] [3,7,9,11,12,13,16] kr (fun s=>∃ (X:List (List AV)) (rows:List RowA),s=⟨B++([a0.cs,a2.cs,[.val (.int .i64 a0.kind),.val (.int .i64 a0.min),.val (.int .i64 a0.max),.val (.int .i64 a0.scale),.list (a0.words.map Lq) .none,.list (a0.elem.map HF) .none,.list (((a0.fields.take (a1.tmod (a0.fields.length:Int)).toNat)++(a0.fields.drop ((a1.tmod (a0.fields.length:Int))+1).toNat)).map Cm) Y],E.1.cs,F.1.cs,a3.1.cs]++X),rows,L⟩) 3 (B.length+6)
      ·simp +decide only [go_sem,Nat.reduceAdd]
      ·rintro s ⟨X,rows,rfl⟩
       refine ⟨2,?_⟩
       rw [Am];simp +decide only [go_sem,Nat.reduceAdd,Eh,hf5,hf10,hf15,d,b,a,Ty.cs_eqs a0,hf43,g,f,c]
       have hs:=Aa c hs
       (repeat' apply Aa)<;>first | refine Ai _ (S1 w0 n _ _ _ E.1 U.2.1 _ a6) (hv hs) ?_ | exact cl | exact .inr trivial
       rw [Am];simp +decide only [go_sem,Nat.reduceAdd,hf5,hf10,hf15,d,b,a,Ty.cs_eqs a0,hf43,g,f,c]
       (repeat' apply Aa)<;>first | rfl | exact cl | exact .inr trivial
      ·refine Good.mk [11] kr ⟨[],_,by first | rfl | (simp only [List.append_nil,List.map_append,Ty.cs_eqs a0];first | done | rfl) | simp only [List.append_nil,List.nil_append]⟩ ?_ ?_
       ·intro h;exact absurd h (by decide)
       ·intro i hi;simp only [List.mem_cons,List.not_mem_nil,or_false] at hi
        subst hi
        ·apply BU rfl rfl ev
         ·simp +decide only [go_sem,Nat.reduceAdd,DU,hf5,hf10,hf15,d,b,a,Ty.cs_eqs a0,hf43,g,f,c]
          (repeat' apply Aa)<;>first | rfl | exact cl | exact .inr trivial
         ·simp +decide only [go_sem,Nat.reduceAdd,hf5,hf10,hf15,d,b,a,Ty.cs_eqs a0,hf43,g,f,c]
          refine Good.mk [12] kr ⟨_,_,by first | rfl | (simp only [List.append_nil,List.map_append,Ty.cs_eqs a0];first | done | rfl) | simp only [List.append_nil,List.nil_append]⟩ ?_ ?_
          ·intro h;exact absurd h (by decide)
          ·intro i hi;simp only [List.mem_cons,List.not_mem_nil,or_false] at hi
           subst hi
           ·apply BU rfl rfl ev
            ·simp +decide only [go_sem,Nat.reduceAdd,DU,hf5,hf10,hf15,d,b,a,Ty.cs_eqs a0,hf43,g,f,c]
             (repeat' apply Aa)<;>first | rfl | exact cl | exact .inr trivial
            ·simp +decide only [go_sem,Nat.reduceAdd,hf5,hf10,hf15,d,b,a,Ty.cs_eqs a0,hf43,g,f,c]
             refine Good.mk [] kr ⟨_,_,by first | rfl | (simp only [List.append_nil,List.map_append,Ty.cs_eqs a0];first | done | rfl) | simp only [List.append_nil,List.nil_append]⟩ ?_ ?_
             ·intro _;apply CO [3,7,9,11,12,13,16];first | (simp +decide only [go_sem,Nat.reduceAdd,hf5,hf10,hf15,d,b,a,Ty.cs_eqs a0,hf43,g,f,c];done) | (simp +decide only [go_sem,Nat.reduceAdd,hf5,hf10,hf15,d,b,a,Ty.cs_eqs a0,hf43,g,f,c];rfl)
             ·intro i hi;cases hi
      simp +decide only [go_sem,Nat.reduceAdd,hf5,hf10,hf15,d,b,a,Ty.cs_eqs a0,hf43,g,f,c]
      (repeat' apply Aa)<;>first | refine au _ _ ?_ | exact cl | exact .inr trivial
      clear au
      have hs:=Aa c hs
      refine rg [3,7,9,11,12,13,119] hs ?_
      refine AN h hs (fun hs h=>?_) (fun hs h=>?_)
      ·refine rl [3,7,9,11,12,13] hs ak ?_
       exact ⟨((a0.fields.take (a1.tmod (a0.fields.length:Int)).toNat)++(a0.fields.drop ((a1.tmod (a0.fields.length:Int))+1).toNat)),E.1,Y,E.1.cs,([ba.1.cs]),O,ef (cm hs),ef (cm hs),Owns.of_eq (w) EA,ef (cm hs),h⟩
      refine sk [3,7,9,11,12,13] hs ak ?_
      exact ⟨((a0.fields.take (a1.tmod (a0.fields.length:Int)).toNat)++(a0.fields.drop ((a1.tmod (a0.fields.length:Int))+1).toNat)),a3.1,Y,a3.1.cs,([ba.1.cs]),O,ef (cm hs),ef (cm hs),Owns.of_eq (w) EA,ef (cm hs),h⟩
     ·clear h;rintro e st ⟨p,t,q,G,Xk61,Rk61,rfl,rfl,w,bp,h⟩
      rw [DV] at h
      refine Jn (B.length+5) (by first | rfl | (simp only [HQ,Gw,IG,Hw];rfl)) bp ?_;simp +decide only [go_sem,Nat.reduceAdd]
      show GL _ _ _ _ _ _ _ _ [(3,true,.box B.length 0),(7,true,.val (.int .i64 (a1.tmod (a0.fields.length:Int)))),(9,true,.box (B.length+3) 0),(11,true,.box (B.length+4) 0),(12,true,.val (.int .i64 F.2)),(13,true,.box (B.length+5) 0)] ⟨B++([a0.cs,a2.cs,[.val (.int .i64 a0.kind),.val (.int .i64 a0.min),.val (.int .i64 a0.max),.val (.int .i64 a0.scale),.list (a0.words.map Lq) .none,.list (a0.elem.map HF) .none,.list (p.map Cm) q],E.1.cs,F.1.cs,t.cs]++Xk61),Rk61,L⟩
      have hU:=w.unders
      simp only [List.mem_cons,List.not_mem_nil,or_false,forall_eq_or_imp,forall_eq] at hU
      refine td hN ay a5 k w ?_
      apply Ah;intro K67 ar
      obtain ⟨b6,bh,h⟩:=bind_some h
      have hs:=Aa c hs
      refine rc 2 [3,7,9,11,12,123] hs ?_;intro K68 ai
      refine Ai _ (KX w0 hT n _ _ _ t _ bh) (hv hs) ?_
      refine ne hs ai ?_
      clear ai
      refine AN h hs (fun hs h=>?_) (fun hs h=>?_)
      ·have y:=hs.1
       refine rg [6] hs ?_
       exact rt h hs k w
      have y:=hs.1
      refine sk [3,7,9,11,12] hs ar ?_
      clear ar
      apply Ah;intro K72 ae
      refine rg [3,7,9,11,127] hs ?_
      refine AN h hs (fun hs h=>?_) (fun hs h=>?_)
      ·have C:=hs.1
       refine rg [6] hs ?_
       exact rt h hs k w
      have C:=hs.1
      refine sk [3,7,9,11] hs ae ?_
      clear ae
      refine Aw (fun e st=>∃ (v:List (Int × ByteArray × Int × Ty × List Vl)) (D:Ev.Own),Ck e st B Rw L [] [a0.cs,a2.cs,[.val (.int .i64 a0.kind),.val (.int .i64 a0.min),.val (.int .i64 a0.max),.val (.int .i64 a0.scale),.list (a0.words.map Lq) .none,.list (a0.elem.map HF) .none,.list (v.map Cm) D],E.1.cs,F.1.cs,t.cs] [(11,v.length,D)] (H6 n v=some r)) ?_ ?_
      ·intro K78 bf
       refine rg [3,7,9,11,17] hs ?_
       apply Ak
       refine AC (fun m e st=>∃ (u:Int) (l:List (Int × ByteArray × Int × Ty × List Vl)) (j:Ev.Own),Ck e st B Rw L [(3,true,.box B.length 0),(7,true,.val (.int .i64 (a1.tmod (a0.fields.length:Int)))),(9,true,.box (B.length+3) 0),(11,true,.box (B.length+4) 0),(17,true,.val (.int .i64 u))] [a0.cs,a2.cs,[.val (.int .i64 a0.kind),.val (.int .i64 a0.min),.val (.int .i64 a0.max),.val (.int .i64 a0.scale),.list (a0.words.map Lq) .none,.list (a0.elem.map HF) .none,.list (l.map Cm) j],E.1.cs,F.1.cs,t.cs] [(11,l.length,j)] (BZ n E F U m u l=some r)) n ⟨0,p,q,([]),Rk61,ef hs,ef hs,Owns.of_eq (w) EA,h⟩ ?_
       rintro ml80 e st ⟨u,l,j,Xl80,Rl80,rfl,rfl,w,h⟩ Ul80 Vl80
       cases ml80 with
       | zero=>cases h
       | succ ml80 =>
       rw [BZ] at h
       have hU:=w.unders
       simp only [List.mem_cons,List.not_mem_nil,or_false,forall_eq_or_imp,forall_eq] at hU
       refine td hN ay a5 k w ?_
       apply Ah;intro K81 Z
       refine rg [3,7,9,11,17,132] hs ?_
       refine AN h hs (fun hs h=>?_) (fun hs h=>?_)
       rotate_left
       ·have z:=hs.1
        refine sx [] hs bf ?_
        exact ⟨l,j,([]),Rl80,ef hs,ef hs,Owns.of_eq (w) EA,h⟩
       have z:=hs.1
       refine sk [3,7,9,11,17] hs Z ?_
       clear Z
       apply Ah;intro K84 N
       apply Ak
       apply Ah;intro K85 aj
       obtain ⟨a4,bu,bo,o,h⟩:=ix BM h
       obtain ⟨Q,bd,h⟩:=bind_some h
       apply Ho HH [11,12] [3,7,9,11,17,18,19] kr (fun s=>∃ (X:List (List AV)) (rows:List RowA),s=⟨B++([a0.cs,a2.cs,[.val (.int .i64 a0.kind),.val (.int .i64 a0.min),.val (.int .i64 a0.max),.val (.int .i64 a0.scale),.list (a0.words.map Lq) .none,.list (a0.elem.map HF) .none,.list (l.map Cm) j],E.1.cs,F.1.cs,t.cs]++X),rows,L⟩) 3 (B.length+6)
       ·simp +decide only [go_sem,Nat.reduceAdd]
       ·rintro s ⟨X,rows,rfl⟩
        refine ⟨2,?_⟩
        rw [Am];simp +decide only [go_sem,Nat.reduceAdd,Eh,hf5,hf10,hf15,d,b,a,Ty.cs_eqs a0,hf43,g,f,c,y,C,z,o]
        have hs:=Aa o hs
        (repeat' apply Aa)<;>first | refine Ai _ (S1 w0 n _ _ _ F.1 a4.1 _ bd) (hv hs) ?_ | exact cl | exact .inr trivial
        rw [Am];simp +decide only [go_sem,Nat.reduceAdd,hf5,hf10,hf15,d,b,a,Ty.cs_eqs a0,hf43,g,f,c,y,C,z,o]
        (repeat' apply Aa)<;>first | rfl | exact cl | exact .inr trivial
       ·refine Good.mk [11] kr ⟨[],_,by first | rfl | (simp only [List.append_nil,List.map_append,Ty.cs_eqs a0];first | done | rfl) | simp only [List.append_nil,List.nil_append]⟩ ?_ ?_
        ·intro h;exact absurd h (by decide)
        ·intro i hi;simp only [List.mem_cons,List.not_mem_nil,or_false] at hi
         subst hi
         ·apply BU rfl rfl ev
          ·simp +decide only [go_sem,Nat.reduceAdd,DU,hf5,hf10,hf15,d,b,a,Ty.cs_eqs a0,hf43,g,f,c,y,C,z,o]
           (repeat' apply Aa)<;>first | rfl | exact cl | exact .inr trivial
          ·simp +decide only [go_sem,Nat.reduceAdd,hf5,hf10,hf15,d,b,a,Ty.cs_eqs a0,hf43,g,f,c,y,C,z,o]
           refine Good.mk [12] kr ⟨_,_,by first | rfl | (simp only [List.append_nil,List.map_append,Ty.cs_eqs a0];first | done | rfl) | simp only [List.append_nil,List.nil_append]⟩ ?_ ?_
           ·intro h;exact absurd h (by decide)
           ·intro i hi;simp only [List.mem_cons,List.not_mem_nil,or_false] at hi
            subst hi
            ·apply BU rfl rfl ev
             ·simp +decide only [go_sem,Nat.reduceAdd,DU,hf5,hf10,hf15,d,b,a,Ty.cs_eqs a0,hf43,g,f,c,y,C,z,o]
              (repeat' apply Aa)<;>first | rfl | exact cl | exact .inr trivial
             ·simp +decide only [go_sem,Nat.reduceAdd,hf5,hf10,hf15,d,b,a,Ty.cs_eqs a0,hf43,g,f,c,y,C,z,o]
              refine Good.mk [] kr ⟨_,_,by first | rfl | (simp only [List.append_nil,List.map_append,Ty.cs_eqs a0];first | done | rfl) | simp only [List.append_nil,List.nil_append]⟩ ?_ ?_
              ·intro _;apply CO [3,7,9,11,17,18,19];first | (simp +decide only [go_sem,Nat.reduceAdd,hf5,hf10,hf15,d,b,a,Ty.cs_eqs a0,hf43,g,f,c,y,C,z,o];done) | (simp +decide only [go_sem,Nat.reduceAdd,hf5,hf10,hf15,d,b,a,Ty.cs_eqs a0,hf43,g,f,c,y,C,z,o];rfl)
              ·intro i hi;cases hi
       simp +decide only [go_sem,Nat.reduceAdd,hf5,hf10,hf15,d,b,a,Ty.cs_eqs a0,hf43,g,f,c,y,C,z,o]
       (repeat' apply Aa)<;>first | refine aj _ _ ?_ | exact cl | exact .inr trivial
       clear aj
       apply Ah;intro K88 H
       rcases Bool.eq_false_or_eq_true (Q.2 != (!(Cb a4.1 U.2.1))) with hf89 | hf89
       ·replace h:=Ba h hf89
        have hs:=Aa o hs
        have hs:=Aa hf89 hs
        refine dk 29 2 1 [3,7,9,11,17,174] hs HH ?_
        refine AD ?_
        refine dn hs H ?_
        clear H
        refine A4 true ev (ef hs) (fun hb90=>?_) (fun hb90=>by cases hb90)
        refine rg [6] hs ?_
        exact rt h hs k w
       ·replace h:=A9 h hf89
        rcases Bool.eq_false_or_eq_true (Q.2) with hf92 | hf92
        ·replace h:=Ba h hf92
         rw [hf92] at hf89
         obtain ⟨b7,a9,h⟩:=bind_some h
         have hs:=Aa o hs
         have hs:=Aa hf89 hs
         have hs:=Aa hf92 hs
         refine dk 29 2 1 [3,7,9,11,17,174] hs HH ?_
         refine Ai _ (Ur w0 n _ _ _ Q.1 a4.2 _ a9) (hv hs) ?_
         refine dn hs H ?_
         clear H
         refine AN h hs (fun hs h=>?_) (fun hs h=>?_)
         ·refine rg [6] hs ?_
          exact rt h hs k w
         refine sk [3,7,9,11,17] hs N ?_
         clear N
         obtain ⟨b2,h⟩:=Aj h
         refine rl [3,7,9,11,17] hs (fun e s=>Vl80 ml80 e s (Nat.lt_succ_self _)) ?_
         exact ⟨(u+1),l,j,([Q.1.cs]),Rl80,ef hs,ef hs,Owns.of_eq (w) EA,h⟩
        ·replace h:=A9 h hf92
         rw [hf92] at hf89
         have hs:=Aa o hs
         have hs:=Aa hf89 hs
         have hs:=Aa hf92 hs
         refine dk 29 2 1 [3,7,9,11,17,174] hs HH ?_
         refine AD ?_
         refine dn hs H ?_
         clear H
         refine A4 false ev (ef hs) (fun hb97=>by cases hb97) (fun hb97=>?_)
         refine sk [3,7,9,11,17] hs N ?_
         clear N
         obtain ⟨b1,h⟩:=Aj h
         refine rl [3,7,9,11,17] hs (fun e s=>Vl80 ml80 e s (Nat.lt_succ_self _)) ?_
         exact ⟨(u+1),l,j,([Q.1.cs]),Rl80,ef hs,ef hs,Owns.of_eq (w) EA,h⟩
      ·clear h;rintro e st ⟨v,D,Xk77,Rk77,rfl,rfl,w,h⟩
       rw [H6] at h
       have hU:=w.unders
       simp only [List.mem_cons,List.not_mem_nil,or_false,forall_eq_or_imp,forall_eq] at hU
       refine td hN ay a5 k w ?_
       refine rg [6] hs ?_
       exact rt h hs k w
theorem WL (n:Nat) (x:Vl) (c:Int) (p:TF) (L:List TF) (hx:x.fields.length≤100000000) (hn:1000000000<n) (hs:SS x.fields) (hc:L1 (HJ x (x.fields.filter fun q => !Cb q.1 p.2.1))=0):∀ (k m i:Nat),i+k=x.fields.length→k<m →
  BZ n (x,c) (HJ x (x.fields.filter fun q => !Cb q.1 p.2.1),0) p m i L=some true
 | k,0,i,_,h=>absurd h (Nat.not_lt_zero _)
 | 0,m+1,i,hi,_=>by
  rw [BZ,As,Ac (show ¬ i<(x,c).1.fields.length by show ¬ i<x.fields.length;omega),Af (by decide)];rfl
 | k+1,m+1,i,hi,hm=>by
  have a:i<x.fields.length:=by omega
  have b:=List.getElem_mem a
  have o:(x.fields.filter fun q => !Cb q.1 p.2.1).length≤x.fields.length:=List.length_filter_le ..
  have ih:BZ n (x,c) (HJ x (x.fields.filter fun q => !Cb q.1 p.2.1),0) p m ((i:Int)+1) L=some true:=WL n x c p L hx hn hs hc k m (i+1) (by omega) (by omega)
  have l:SS (HJ x (x.fields.filter fun q => !Cb q.1 p.2.1)).fields:=List.Pairwise.sublist List.filter_sublist hs
  have j:B7 (x,c).1.fields (i:Int)=some x.fields[i]:=Az a
  have g:HY n (HJ x (x.fields.filter fun q => !Cb q.1 p.2.1),(0:Int)).1 x.fields[i].1=some ((CG (HJ x (x.fields.filter fun q => !Cb q.1 p.2.1)) x.fields[i].1).getD nilV,(CG (HJ x (x.fields.filter fun q => !Cb q.1 p.2.1)) x.fields[i].1).isSome) :=
   SA n (HJ x (x.fields.filter fun q => !Cb q.1 p.2.1)) _ (show (x.fields.filter fun q => !Cb q.1 p.2.1).length≤_ by omega) (show (x.fields.filter fun q => !Cb q.1 p.2.1).length<n by omega)
  rw [BZ,As,Ad (show i<(x,c).1.fields.length from a),Ae rfl,j,Ab,g,Ab]
  cases r:Cb x.fields[i].1 p.2.1 with
  | true =>
   have e:CG (HJ x (x.fields.filter fun q => !Cb q.1 p.2.1)) x.fields[i].1=none:=by
    cases z:CG (HJ x (x.fields.filter fun q => !Cb q.1 p.2.1)) x.fields[i].1 with
    | none=>rfl
    | some y =>
     obtain ⟨q,d,f,_⟩:=KV z
     have hq2:=(List.mem_filter.1 (show q∈x.fields.filter fun q => !Cb q.1 p.2.1 from d)).2
     rw [f,r] at hq2
     cases hq2
   rw [e,Af (by decide),Af (by decide),Ae (Av (by omega))]
   exact ih
  | false =>
   have d:x.fields[i]∈(HJ x (x.fields.filter fun q => !Cb q.1 p.2.1)).fields:=List.mem_filter.2 ⟨b,by rw [r];rfl⟩
   have e:=P8 l d
   have sz:=Vl.field_size (HJ x (x.fields.filter fun q => !Cb q.1 p.2.1)) _ d
   have:=ZdS hc
   have eq:Hl n ((some x.fields[i].2).getD nilV,(some x.fields[i].2).isSome).1 x.fields[i].2=some true:=ZQ n x.fields[i].2 (by omega) (by omega)
   rw [e,Af (by simp),Ae (by simp),eq,Ab,Af (by decide),Ae (Av (by omega))]
   exact ih
theorem Zi (n:Nat) (hn:10000000000≤n) (t:Ty) (u:Int) (v:Vl) (hu:0≤u∧u≤255) (h1:t.bulk≤1048576) (hv:v.bulk≤1048576):Hq n t u v=some true:=by
 have N:=ZbE n (by omega)
 have b1:=t.size_bulk
 have b3:=v.size_bulk
 have f:=v.ok_bulk hv
 rw [Hq,N,Ab,Af (by decide),ZK n t (by omega) (by omega),Ab]
 by_cases s1:t.depth≤10∧t.size≤60
 rotate_left
 ·rw [Ac s1,Ae (by rfl),Ab]
 obtain ⟨few,i⟩:=Zds v (by omega)
 rw [Ad s1,Af (by decide),i,Ab]
 by_cases cc:few=true∧t.kind=9∧2≤t.fields.length
 rotate_left
 ·rw [Ae,Ab]
  cases few with
  | false=>rfl
  | true =>
   by_cases b:t.kind=9
   ·rw [Ad b,Ad (show (t.fields.length:Int)<2 from by
     have:¬ 2≤t.fields.length:=fun q=>cc ⟨rfl,b,q⟩
     omega)];rfl
   ·rw [Ac b];rfl
 obtain ⟨rfl,b,y⟩:=cc
 rw [Ad b,Ac (show ¬ (t.fields.length:Int)<2 by omega),Af (by decide)]
 have e:t.small:=Ty.small_of h1 (by omega) (by omega)
 obtain ⟨Q,j,K⟩:=YT n t (by omega) e
 rw [j,Ab]
 by_cases z:Q=0
 rotate_left
 ·rw [Ac z,Ae (by rfl),Ab]
 subst z
 have g1:t.Fine 8:=K rfl
 have own:=g1.good.own
 have len:=own.fields
 obtain ⟨k,hk,hlt⟩:∃ k:Nat,u.tmod (t.fields.length:Int)=(k:Int)∧k<t.fields.length:=by
  obtain ⟨m,rfl⟩:∃ m:Nat,u=m:=⟨u.toNat,by omega⟩
  exact ⟨m % t.fields.length,rfl,Nat.mod_lt _ (by omega)⟩
 have o:((k:Int)+1).toNat=k+1:=by omega
 have U:∀ l,Ty.mk t.kind t.min t.max t.scale t.words t.elem l=D7 t l:=fun _=>rfl
 have lt:=List.length_take_le k t.fields
 have ld:(t.fields.drop (k+1)).length≤t.fields.length:=by rw [List.length_drop];omega
 have a:=YN t.fields k
 obtain ⟨w1,w2,w3⟩:=Zm t a
 have g:(D7 t (t.fields.take k++t.fields.drop (k+1))).small:=Ty.small_of (by omega) (by omega) (by omega)
 have F:=Yw n t _ (by omega) e g b a j g1
 have g2:=U4 b g1 a
 have h:C6 n t (D7 t (t.fields.take k++t.fields.drop (k+1)))=some 0:=by rw [C6,j,Ab,Af (by decide),F];rfl
 obtain ⟨C,_⟩:=Ud 12 n t _ e g g1.good g2.good e.2.1 (by omega)
 obtain ⟨E,_⟩:=W7 12 n t _ e g g1.good g2.good e.2.1 (by omega)
 rw [Zdb (d:=11) b g1.good a e.2.1] at C
 rw [ZbG (d:=11) b g1.good hlt] at E
 have p:Eo n t (D7 t (t.fields.take k++t.fields.drop (k+1)))=some true:=by rw [Eo,h,Ab,Ae (by decide),C,Ab]
 have s:E7 n t (D7 t (t.fields.take k++t.fields.drop (k+1)))=some false:=by rw [E7,h,Ab,Ae (by decide),E,Ab]
 have V:=SG n t v e f (by omega) (by omega)
 have O:=Z6 n t _ v hn e g f (by omega) j F g1 g2
 rw [Af (by decide),Ae (by unfold BQ;omega),Ae (by omega),hk]
 simp only [Int.toNat_natCast,o,U]
 rw [Ae ⟨by omega,by omega,by omega⟩,Ae ⟨by omega,by omega⟩,Ae (Av (by omega)),Ae ⟨by omega,by omega,by omega⟩,Ae ⟨by omega,by omega⟩,p,Ab,Af (by decide),s,Ab,Af (by decide),V,Ab,O,Ab,UpR]
 by_cases hf:IE 12 t (BC 12 t v)=true
 rotate_left
 ·rw [Af hf,Af hf];rfl
 obtain ⟨r,Y⟩:=OY 12 t v e f (by omega)
 have vd:=v.depth_size
 obtain ⟨Z,_,_,J⟩:=O0 hf
 have xs:=O2 J (by omega)
 have xl:=r.inv.2.1
 obtain ⟨r1,H,u1,u2,u3,G⟩:=Zl 12 n (v.depth+1048576) 8 t _ (BC 12 t v) e g g1.good g2 r Y hf (by omega)
 rw [ZaW (d:=11) b g1.good hlt hf] at G
 obtain ⟨y0,x,D⟩:=G
 have y0:H=(HJ (BC 12 t v) ((BC 12 t v).fields.filter fun q => !Cb q.1 t.fields[k].2.1),true):=y0
 subst y0
 have x:(HJ (BC 12 t v) ((BC 12 t v).fields.filter fun q => !Cb q.1 t.fields[k].2.1)).Nar:=x
 have D:(HJ (BC 12 t v) ((BC 12 t v).fields.filter fun q => !Cb q.1 t.fields[k].2.1)).depth≤_:=D
 rw [Ae hf,Ae hf,ZaW (d:=11) b g1.good hlt hf]
 have fin:DV n (BC 12 t v,0) (if L1 (HJ (BC 12 t v) ((BC 12 t v).fields.filter fun q => !Cb q.1 t.fields[k].2.1))=0 then (HJ (BC 12 t v) ((BC 12 t v).fields.filter fun q => !Cb q.1 t.fields[k].2.1),0) else (nilV,9)) t.fields[k] (t.fields.take k++t.fields.drop (k+1)) (HJ (BC 12 t v) ((BC 12 t v).fields.filter fun q => !Cb q.1 t.fields[k].2.1))=some true:=by
  rw [DV,Vo n _ (by omega) (by omega) x,Ab]
  by_cases c:L1 (HJ (BC 12 t v) ((BC 12 t v).fields.filter fun q => !Cb q.1 t.fields[k].2.1))=0
  ·rw [Ae c,Ad c,Af (by decide),Af (by simp)]
   exact WL n (BC 12 t v) 0 t.fields[k] _ (by omega) (by omega) xs c (BC 12 t v).fields.length n 0 (by omega) (by omega)
  ·rw [Af c,Ac c,Ae (by rfl)];rfl
 simp only [decide_true,Bool.not_true,Bool.false_eq_true,if_false]
 rw [Az hlt,Ab,Zay n _ _ r (by omega) xs (by omega),Ab,SA n _ _ (by omega) (by omega),Ab]
 cases hfv:CG (BC 12 t v) t.fields[k].2.1 with
 | none =>
  rw [Zp hfv] at fin ⊢
  rw [Ae (by rfl)]
  exact fin
 | some w =>
  rw [Af (by simp)]
  exact fin
end Go.Proofs.YtgpmlelfkjfbiaaGreatDoor
namespace Go.Proofs.YtgpmlelfkjfbiaaGreatDoor
open Go Go.Shelf Go.ChangeShapes Go.WideShapes Go.ChangeAt Go.RowKit Go.Lib Go.Ev
section
variable {H:Type} {enc:TypeId × Value→H} {W:World} {base:Nat} {v:Value} {d:DataW H} {p:List MemPlace}
theorem Zic (hv:Value.okWide Tryz.prog W .any base 5 v) (h:DataW.Trod enc Tryz.prog W 0 (fun _=>true) true 5 v d p):∃ n:Int,(0≤n∧n≤255)∧R W Mem.start W v (.val (.int .u8 n)):=by
 obtain ⟨n,rfl,rfl,rfl,a⟩:=open_int Tryz.underlying5 hv h
 refine ⟨n,?_,.flat rfl⟩
 simp [Lit.wf,IntKind.min,IntKind.max,IntKind.signed,IntKind.bits] at a
 omega
end
end Go.Proofs.YtgpmlelfkjfbiaaGreatDoor
