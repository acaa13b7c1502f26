/-
  Part 7 of the proof: rules and walks that the claim's last text uses.
-/
import Derived.Lib.ItoaLen
import Derived.Test.YtgpmlelfkjfbiaaGreatDoorSr6
set_option linter.unusedSimpArgs false
set_option linter.unusedVariables false
set_option maxRecDepth 100000
set_option maxHeartbeats 4000000
namespace Go.Proofs.YtgpmlelfkjfbiaaGreatDoor
open Go Go.RowKit Go.Ev
inductive Vl.Nar:Vl→Prop
 | mk (v:Vl) (hl:v.list.length≤100000000) (hf:v.fields.length≤100000000) (ht:v.text.size≤1048576) (h1:∀ x∈v.list,Vl.Nar x) (h2:∀ p∈v.fields,p.1.size≤1048576) (h3:∀ p∈v.fields,Vl.Nar p.2):Vl.Nar v
theorem Vl.Nar.inv {v:Vl} (h:v.Nar):v.list.length≤100000000∧v.fields.length≤100000000∧v.text.size≤1048576∧(∀ x∈v.list,Vl.Nar x)∧∀ p∈v.fields,p.1.size≤1048576∧Vl.Nar p.2:=by
 cases h with
 | mk _ a b c d e f=>exact ⟨a,b,c,d,fun p g=>⟨e p g,f p g⟩⟩
theorem Vl.Nar.wide {v:Vl} (h:v.Nar):v.wide=true:=by
 induction h with
 | mk v a b c d e f i1 i2=>exact v.wide_iff.2 ⟨by omega,by omega,i1,i2⟩
theorem Vl.Nar.ok {v:Vl} (h:v.Nar):v.ok:=by
 induction h with
 | mk v a b c d e f i1 i2=>exact v.ok_eq.2 ⟨c,i1,fun p g=>⟨e p g,i2 p g⟩⟩
theorem OA:∀ (k:Nat) (v:Vl),v.size≤k→v.size≤1048576→v.ok→v.Nar
 | 0,v,h,_,_=>by have:=v.size_pos;omega
 | k+1,v,h,hs,ho=>by
  obtain ⟨d,e,b⟩:=v.ok_eq.1 ho
  have f:=It v
  exact .mk v (by omega) (by omega) d (fun x c=>by have:=v.list_size x c;exact OA k x (by omega) (by omega) (e x c)) (fun p a=>(b p a).1) (fun p a=>by have:=v.field_size p a;exact OA k p.2 (by omega) (by omega) (b p a).2)
theorem Vl.Nar.list {v x:Vl} (h:v.Nar) (hx:x∈v.list):x.Nar:=h.inv.2.2.2.1 x hx
theorem Vl.Nar.field {v:Vl} {p:ByteArray × Vl} (h:v.Nar) (hp:p∈v.fields):p.2.Nar:=(h.inv.2.2.2.2 p hp).2
theorem Vl.depth_list {v x:Vl} (hx:x∈v.list):x.depth<v.depth:=by
 have e:=v.depth_eq
 have:=(Ia v.list _).1 (Nat.le_refl _) x hx
 omega
theorem Vl.depth_fld {v:Vl} {p:ByteArray × Vl} (hp:p∈v.fields):p.2.depth<v.depth:=by
 have e:=v.depth_eq
 have:=(Jg v.fields _).1 (Nat.le_refl _) p hp
 omega
theorem GK:∀ (n:Nat) (v:Vl),v.Nar→v.depth+1000000000<n→Bn n v=some v
 | 0,v,_,h=>absurd h (Nat.not_lt_zero _)
 | n+1,v,hv,h=>by
  obtain ⟨c,d,_,_,_⟩:=hv.inv
  rw [Bn,Nb]
  have:=Ro (Bn n) n v ⟨by omega,by omega⟩ (by omega) ⟨fun x b=>GK n x (hv.list b) (by have:=Vl.depth_list b;omega),fun p a=>GK n p.2 (hv.field a) (by have:=Vl.depth_fld a;omega)⟩ v.list.length n 0 (by omega) (by omega)
  rw [List.take_zero] at this
  exact this
def IE:Nat→Ty→Vl→Bool
 | 0,_,_=>false
 | d+1,t,v =>
  if (t.kind<1∨10<t.kind)∨v.kind≠t.kind∨DI v=false then false
  else if t.kind=2∨t.kind=6∨t.kind=7 then Oc v.int t
  else if t.kind=3 then decide (v.scale=t.scale)&&Oc v.int t
  else if t.kind=4 then JR v.text t
  else if t.kind=5 then Oc v.text.size t
  else if t.kind=8 then Oc v.list.length t&&v.list.all fun u=>(match t.elem with | [x]=>IE d x u | _=>false)
  else if t.kind=9 then (t.fields.all fun p=>match CG v p.2.1 with | some y=>IE d p.2.2.2.1 y | none=>decide (p.2.2.1=2))&&v.fields.all fun q=>(B6 t q.1).isSome
  else if t.kind=10 then (match B6 t v.text,v.list with | some p,x::_=>IE d p.2.2.2.1 x | _,_=>false)
  else true
theorem RD (b:Bool) (p:ByteArray) (c:Int):Bl (!b) b p c=some (true,false):=by cases b<;>rfl
theorem US (b:Bool) (t:Ty) (p:ByteArray) (k:Int):BF (!b) b t p k=some (!(b&&Oc k t),b&&Oc k t):=by
 rw [BF,RD]
 by_cases h1:k<t.min
 ·rw [Ad h1,Ae (by rfl)]
  rw [Oc,Ac (by omega)];simp
 ·by_cases h2:t.max<k
  ·rw [Ad h2,Ae (by simp)]
   rw [Oc,Ac (show ¬ k≤t.max by omega)];simp
  ·rw [Ac h1,Ac h2,Af (by decide),Oc,Ad (show t.min≤k by omega),Ad (show k≤t.max by omega)];simp
theorem ZhC (l:List UInt8):(⟨l.toArray⟩:ByteArray).size=l.length:=by simp [ByteArray.size]
theorem J1 (a b:ByteArray):(a++b).size=a.size+b.size:=ByteArray.size_append
theorem Yp (p w:ByteArray) (hp:p.size≤1000000000000000) (hw:w.size≤1048576):∃ s,Hi p w=some s∧s.size≤p.size+1048577:=by
 rw [Hi]
 cases Cb p ⟨#[]⟩ with
 | true=>exact ⟨w,rfl,by omega⟩
 | false =>
  have e:(⟨#[46]⟩:ByteArray).size=1:=rfl
  rw [Af (by decide),Ae (by omega),Ae (by rw [J1];omega)]
  exact ⟨_,rfl,by rw [J1,J1];omega⟩
theorem Y3 (rec:Bool→Bool→Ty→Vl→ByteArray→Option (Bool × Bool)) (n:Nat) (t:Ty) (v:Vl) (p:ByteArray) (g:Ty→Vl→Bool) (hp:p.size≤1000000000000000) (hl:v.list.length≤1000000000)
  (hr:∀ x,t.elem=[x]→∀ u∈v.list,∀ (b:Bool) (s:ByteArray),s.size≤p.size+1048577→rec (!b) b x u s=some (!(b&&g x u),b&&g x u)):∀ (k m i:Nat) (b:Bool),i+k=v.list.length→k<m →
  Bz rec n t v p m i (!b) b=some (!(b&&(v.list.drop i).all fun u=>(match t.elem with | [x]=>g x u | _=>false)),b&&(v.list.drop i).all fun u=>(match t.elem with | [x]=>g x u | _=>false))
 | k,0,i,b,_,h=>absurd h (Nat.not_lt_zero _)
 | 0,m+1,i,b,hi,_=>by
  rw [Bz,As,Ac (by omega),Af (by decide),List.drop_eq_nil_of_le (by omega),List.all_nil,Bool.and_true]
 | k+1,m+1,i,b,hi,hm=>by
  have d:i<v.list.length:=by omega
  have ih:=fun b=>Y3 rec n t v p g hp hl hr k m (i+1) b (by omega) (by omega)
  have f:(⟨#[91]⟩:ByteArray).size=1:=rfl
  have j:(⟨#[93]⟩:ByteArray).size=1:=rfl
  have e:=Lib.itoa_length_le (i:Int) (by omega) (by omega)
  have l:(⟨(Lib.itoa i).toArray⟩:ByteArray).size=(Lib.itoa i).length:=ZhC _
  rw [Bz,As,Ad d,Ae rfl,Az d,Ab,Ae (by omega),Ae (by unfold BQ;omega),Ae (by rw [J1];omega),Ae (by rw [J1,J1];omega),List.drop_eq_getElem_cons d,List.all_cons]
  match he:t.elem with
  | [x] =>
   have:=hr x he _ (List.getElem_mem d) b (((p++(⟨#[91]⟩:ByteArray))++(⟨(Lib.itoa i).toArray⟩:ByteArray))++(⟨#[93]⟩:ByteArray)) (by rw [J1,J1,J1];omega)
   have ih:=ih (b&&g x v.list[i])
   rw [he] at ih
   rw [Ae (by rfl),show B7 [x] 0=some x from rfl,Ab,this,Ab,CS,Ae (Av (by omega))]
   simp only [Bool.and_assoc] at ih ⊢
   exact ih
  | [] =>
   have ih:=ih false
   rw [he] at ih
   rw [Af (by decide),RD,Ab,CS,Ae (Av (by omega)),Bool.false_and,Bool.and_false]
   exact ih
  | a::c::r =>
   have ih:=ih false
   rw [he] at ih
   rw [Af (by rw [decide_eq_true_eq];simp;omega),RD,Ab,CS,Ae (Av (by omega)),Bool.false_and,Bool.and_false]
   exact ih
theorem ZaN (rec:Bool→Bool→Ty→Vl→ByteArray→Option (Bool × Bool)) (n:Nat) (t:Ty) (v:Vl) (p:ByteArray) (hp:p.size≤1000000000000000) (ht:t.fields.length≤1000000000) (htn:t.fields.length<n) (hl:v.fields.length≤1000000000) (hv:∀ q∈v.fields,q.1.size≤1048576):∀ (k m i:Nat) (b:Bool),i+k=v.fields.length→k<m →
  Bt rec n t v p m i (!b) b=some (!(b&&(v.fields.drop i).all fun q=>(B6 t q.1).isSome),b&&(v.fields.drop i).all fun q=>(B6 t q.1).isSome)
 | k,0,i,b,_,h=>absurd h (Nat.not_lt_zero _)
 | 0,m+1,i,b,hi,_=>by
  rw [Bt,As,Ac (by omega),Af (by decide),List.drop_eq_nil_of_le (by omega),List.all_nil,Bool.and_true]
 | k+1,m+1,i,b,hi,hm=>by
  have a:i<v.fields.length:=by omega
  have ih:=fun b=>ZaN rec n t v p hp ht htn hl hv k m (i+1) b (by omega) (by omega)
  rw [Bt,As,Ad a,Ae rfl,Az a,Ab,J8 n t _ ht htn,Ab,List.drop_eq_getElem_cons a,List.all_cons]
  cases c:B6 t v.fields[i].1 with
  | none =>
   obtain ⟨s,d,_⟩:=Yp p v.fields[i].1 hp (hv _ (List.getElem_mem a))
   have ih:=ih false
   rw [Ae (by rfl),d,Ab,RD,Ab,CZ,Ae (Av (by omega)),Option.isSome_none,Bool.false_and,Bool.and_false]
   exact ih
  | some q =>
   rw [Af (by simp),CZ,Ae (Av (by omega)),Option.isSome_some,Bool.true_and]
   exact ih b
theorem KV {v y:Vl} {w:ByteArray} (h:CG v w=some y):∃ q∈v.fields,q.1=w∧q.2=y:=by
 rw [CG] at h
 obtain ⟨q,a,b⟩:=Option.map_eq_some_iff.1 h
 exact ⟨q,List.mem_of_find?_eq_some a,(Ei _ _).1 (List.find?_some (p:=fun q:ByteArray × Vl=>Cb q.1 w) a),b⟩
theorem Zh3 (rec:Bool→Bool→Ty→Vl→ByteArray→Option (Bool × Bool)) (n:Nat) (t:Ty) (v:Vl) (p:ByteArray) (g:Ty→Vl→Bool) (hk:v.kind=9) (hc:∀ q∈v.fields,Bn n q.2=some q.2) (hs:v.fields.length<n) (hp:p.size≤1000000000000000) (ht:t.fields.length≤1000000000) (htn:t.fields.length<n) (hl:v.fields.length≤1000000000) (hv:∀ q∈v.fields,q.1.size≤1048576) (hn:∀ q∈t.fields,q.2.1.size≤1048576)
  (hr:∀ q∈t.fields,∀ y,CG v q.2.1=some y→∀ (b:Bool) (s:ByteArray),s.size≤p.size+1048577→rec (!b) b q.2.2.2.1 y s=some (!(b&&g q.2.2.2.1 y),b&&g q.2.2.2.1 y)):∀ (k m i:Nat) (b:Bool),i+k=t.fields.length→k<m →
  Bg rec n t v p m i (!b) b=some (!(b&&(((t.fields.drop i).all fun q=>match CG v q.2.1 with | some y=>g q.2.2.2.1 y | none=>decide (q.2.2.1=2))&&v.fields.all fun q=>(B6 t q.1).isSome)),b&&(((t.fields.drop i).all fun q=>match CG v q.2.1 with | some y=>g q.2.2.2.1 y | none=>decide (q.2.2.1=2))&&v.fields.all fun q=>(B6 t q.1).isSome)):=by
 intro k
 induction k with
 | zero =>
  intro m i b o r
  obtain ⟨m,rfl⟩:∃ q,m=q+1:=⟨m-1,by omega⟩
  have:=ZaN rec n t v p hp ht htn hl hv v.fields.length n 0 b (by omega) (by omega)
  rw [List.drop_zero] at this
  rw [Bg,As,Ac (by omega),Af (by decide),E3,List.drop_eq_nil_of_le (by omega),List.all_nil,Bool.true_and]
  exact this
 | succ k ih =>
  intro m i b o r
  obtain ⟨m,rfl⟩:∃ q,m=q+1:=⟨m-1,by omega⟩
  have d:i<t.fields.length:=by omega
  have f:=List.getElem_mem d
  have ih:=fun b=>ih m (i+1) b (by omega) (by omega)
  obtain ⟨s,h,l⟩:=Yp p t.fields[i].2.1 hp (hn _ f)
  rw [Bg,As,Ad d,Ae rfl,Az d,Ab,Ym n v _ hk hl hs hc,Ab,List.drop_eq_getElem_cons d,List.all_cons]
  cases c:CG v t.fields[i].2.1 with
  | some y =>
   have e:=hr _ f y c b s l
   have ih:=ih (b&&g t.fields[i].2.2.2.1 y)
   have j:∀ a g x y:Bool,(a&&g&&(x&&y))=(a&&(g&&x&&y)):=by decide
   rw [j] at ih
   rw [Ae Option.isSome_some,h,Ab,Option.getD_some,e,Ab,BO,Ae (Av (by omega))]
   exact ih
  | none =>
   rw [Af (by simp)]
   by_cases q:t.fields[i].2.2.1=2
   ·rw [Ad q,Af (by decide),BO,Ae (Av (by omega))]
    simp only [Bool.true_and]
    exact ih b
   ·have ih:=ih false
    rw [Ac q,Ae (by rfl),h,Ab,RD,Ab,BO,Ae (Av (by omega))]
    simp only [Bool.false_and,Bool.and_false] at ih ⊢
    exact ih
theorem Qx:∀ (d n:Nat) (t:Ty) (v:Vl) (p:ByteArray) (b:Bool),t.depth≤d→t.size≤200→t.ok→v.Nar→v.depth+1000000000<n→2000000000+d<n→p.size+d*2000000≤100000000000000→Cj n (!b) b t v p=some (!(b&&IE d t v),b&&IE d t v)
 | 0,n,t,v,p,b,h,_,_,_,_,_,_=>by have:=t.depth_eq;omega
 | d+1,0,t,v,p,b,_,_,_,_,_,h,_=>absurd h (by omega)
 | d+1,n+1,t,v,p,b,hd,ht,hto,hv,hvs,hn,hp=>by
  have V:=t.lens
  have N:=It v
  obtain ⟨O,U,H,E,w⟩:=hv.inv
  obtain ⟨Z,Y,G,r⟩:=t.ok_eq.1 hto
  rw [Cj,GT,IE]
  cases b with
  | false=>rw [Ae (by rfl)];rfl
  | true =>
   rw [Af (by decide),Bool.true_and]
   have a:∀ c,(Bl (!true) true p c).bind (fun y=>some (y.1,y.2))=some (!false,false):=fun c=>by rw [RD];rfl
   by_cases c:(t.kind<1∨10<t.kind)∨v.kind≠t.kind
   ·rw [Ae (by simp only [Bool.or_eq_true,decide_eq_true_eq,Bool.not_eq_true',decide_eq_false_iff_not];exact c),Ae (by rcases c with c | c;exact .inl c;exact .inr (.inl c))]
    exact a 1
   rw [Af (by simp only [Bool.or_eq_true,decide_eq_true_eq,Bool.not_eq_true',decide_eq_false_iff_not];exact c),Ww n v (by omega) (by omega) (U2 H),Ab]
   cases hf:DI v with
   | false=>rw [Ae (by rfl),Ae (.inr (.inr rfl))];exact a 8
   | true =>
    have K:v.kind=t.kind:=by
     by_cases q:v.kind=t.kind
     ·exact q
     ·exact absurd (.inr q) c
    have g:∀ k,(BF (!true) true t p k).bind (fun y=>some (y.1,y.2))=some (!Oc k t,Oc k t):=fun k=>by rw [US];rfl
    rw [Af (by decide),Af (show ¬ ((t.kind<1∨10<t.kind)∨v.kind≠t.kind∨true=false) by rintro (q | q | q);exact c (.inl q);exact c (.inr q);cases q)]
    by_cases k2:t.kind=2
    ·rw [Ad k2,Ae rfl,Ae (.inl k2),BP,Ae rfl];exact g v.int
    rw [Ac k2,Af (by decide)]
    by_cases k6:t.kind=6
    ·rw [Ad k6,Ae rfl,Ae (.inr (.inl k6)),BP,Ae rfl];exact g v.int
    rw [Ac k6,Af (by decide)]
    by_cases k7:t.kind=7
    ·rw [Ad k7,Ae (.inr (.inr k7)),BP,Ae rfl];exact g v.int
    rw [Ac k7,Af (by omega),BP,Af (by decide)]
    by_cases k3:t.kind=3
    ·rw [Ad k3,Ae rfl,Ae k3]
     by_cases q:v.scale=t.scale
     ·rw [Ad q,Af (by decide),Bool.true_and];exact g v.int
     ·rw [Ac q,Ae (by rfl),Bool.false_and];exact a 3
    rw [Ac k3,Af (by decide),Af k3]
    by_cases k4:t.kind=4
    ·rw [Ad k4,Ae rfl,Ae k4,CQ,Ae rfl,Ad k4,JR]
     by_cases q:t.words=[]
     ·rw [Ae q,q,Af (by decide)];exact g v.text.size
     ·have J:0<t.words.length:=List.length_pos_iff.2 q
      rw [Af q,Ae (by simp only [Bool.true_and,decide_eq_true_eq];omega),Js n _ t (by omega) (by omega),Ab]
      cases t.words.any fun x=>Cb x v.text with
      | true=>rfl
      | false=>rw [Ae (by rfl)];exact a 4
    rw [Ac k4,Af (by decide),Af k4]
    by_cases k5:t.kind=5
    ·rw [Ad k5,Ae k5,CQ,Ae rfl,Ac k4,Bool.false_and,Af (by decide)];exact g v.text.size
    rw [Ac k5,Af k5,CQ,Af (by decide)]
    by_cases k8:t.kind=8
    ·rw [Ad k8,Ae rfl,Ae k8]
     have e:=Y3 (Cj n) n t v p (IE d) (by omega) (by omega) (fun x m u D b s hs=>by
      have j:x∈t.elem:=by rw [m];simp
      exact Qx d n x u s b (by have:=Ty.depth_elem j;omega) (by have:=t.elem_size x j;omega) (G x j) (E u D) (by have:=Vl.depth_list D;omega) (by omega) (by omega)) v.list.length n 0 (Oc v.list.length t) (by omega) (by omega)
     rw [List.drop_zero] at e
     refine Eq.trans ?_ e
     exact congrArg (fun o=>Option.bind o fun y46:Bool × Bool=>Bz (Cj n) n t v p n 0 y46.1 y46.2) (US true t p v.list.length)
    rw [Ac k8,Af (by decide),Af k8]
    by_cases k9:t.kind=9
    ·rw [Ad k9,Ae rfl,Ae k9]
     have e:=Zh3 (Cj n) n t v p (IE d) (by omega) (fun q i=>GK n q.2 (w q i).2 (by have:=Vl.depth_fld i;omega)) (by omega) (by omega) (by omega) (by omega) (by omega) (fun q i=>(w q i).1) (fun q i=>(r q i).1) (fun q i y F b s hs=>by
       obtain ⟨z,C,_,rfl⟩:=KV F
       exact Qx d n _ _ s b (by have:=Ty.depth_field i;omega) (by have:=t.field_size q i;omega) (r q i).2.1 (w z C).2 (by have:=Vl.depth_fld C;omega) (by omega) (by omega)) t.fields.length n 0 true (by omega) (by omega)
     rw [List.drop_zero,Bool.true_and] at e
     exact congrArg (fun o=>Option.bind o fun y70:Bool × Bool=>some (y70.1,y70.2)) e
    rw [Ac k9,Af (by decide),Af k9]
    by_cases k10:t.kind=10
    ·obtain ⟨x,m⟩:=List.length_eq_one_iff.1 (Qa hf (by omega))
     have l:x∈v.list:=by rw [m];simp
     have Q:(⟨#[63]⟩:ByteArray).size=1:=rfl
     rw [Ad k10,Ae rfl,Ae k10,J8 n t v.text (by omega) (by omega),Ab,m]
     cases q:B6 t v.text with
     | none=>rw [Af (by decide)];exact a 7
     | some f =>
      have j:=(En q).1
      have e:=Qx d n f.2.2.2.1 x ((p++(⟨#[63]⟩:ByteArray))++v.text) true (by have:=Ty.depth_field j;omega) (by have:=t.field_size f j;omega) (r f j).2.1 (E x l) (by have:=Vl.depth_list l;omega) (by omega) (by rw [J1,J1];omega)
      rw [Ae (by rfl),show B7 [x] 0=some x from rfl,Ab,Ae (by omega),Ae (by rw [J1];omega)]
      rw [Bool.true_and] at e
      exact congrArg (fun o=>Option.bind o fun y80:Bool × Bool=>some (y80.1,y80.2)) e
    ·rw [Ac k10,Af (by decide),Af k10]
theorem Zf3 (n d:Nat) (t:Ty) (v:Vl) (hd:t.depth≤d) (hdd:d≤100) (ht:t.size≤200) (hto:t.ok) (hv:v.Nar) (hvs:v.depth+1000000000<n) (hn:2000000000+d<n):KP n t v=some (IE d t v):=by
 rw [KP]
 have:=Qx d n t v ⟨#[]⟩ true hd ht hto hv hvs hn (by have:(⟨#[]⟩:ByteArray).size=0:=rfl;omega)
 rw [Bool.true_and] at this
 exact congrArg (fun o=>Option.bind o fun y5:Bool × Bool=>some y5.2) this
def DX (b:Int):Bool :=
 (decide (b=2))||(decide (b=3))
theorem QM (w0:World) (B:List (List AV)) (Rw:List RowA) (L:List LoopA) (a0:Int) (r:Bool) (h:DX a0=r) :
  ACalls Tryz.prog w0 189 [.val (.int .i64 a0)] ⟨B,Rw,L⟩ fun x st=>x = .val (.bool r)∧st=⟨B,Rw,L⟩:=by
 rw [DX] at h
 refine hd [.tmp 2] Tryz.func189 Tryz.ntmps189 fun M0 W0 f d b a e c hs=>?_
 simp only [Au]
 refine rg [0] hs ?_
 refine rg [2] hs ?_
 exact rT h hs a c
theorem Lc (w0:World) (B:List (List AV)) (Rw:List RowA) (L:List LoopA) (a0:Int) :
  ACalls Tryz.prog w0 189 [.val (.int .i64 a0)] ⟨B,Rw,L⟩ fun x st=>x = .val (.bool (DX a0))∧st=⟨B,Rw,L⟩:=QM w0 B Rw L a0 _ rfl
def Dy (b:Int) (g:Int):Bool :=
 (decide (b=g))||((DX b)&&(DX g))
theorem UQ (w0:World) (B:List (List AV)) (Rw:List RowA) (L:List LoopA) (a0:Int) (a1:Int) (r:Bool) (h:Dy a0 a1=r) :
  ACalls Tryz.prog w0 128 [.val (.int .i64 a0),.val (.int .i64 a1)] ⟨B,Rw,L⟩ fun x st=>x = .val (.bool r)∧st=⟨B,Rw,L⟩:=by
 rw [Dy] at h
 refine hd [.tmp 4] Tryz.func128 Tryz.ntmps128 fun M0 W0 g e c a f d hs=>?_
 simp only [Au]
 refine rg [0,1] hs ?_
 refine rc 3 [4] hs ?_;intro K2 b
 refine H5 _ (fun _=>Lc w0 _ _ _ a0) (hv hs) ?_
 refine nc hs ?_
 refine H5 _ (fun _=>Lc w0 _ _ _ a1) (hv hs) ?_
 refine ne hs b ?_
 clear b
 exact rT h hs a d
theorem JY (w0:World) (B:List (List AV)) (Rw:List RowA) (L:List LoopA) (a0:Int) (a1:Int) :
  ACalls Tryz.prog w0 128 [.val (.int .i64 a0),.val (.int .i64 a1)] ⟨B,Rw,L⟩ fun x st=>x = .val (.bool (Dy a0 a1))∧st=⟨B,Rw,L⟩:=UQ w0 B Rw L a0 a1 _ rfl
def Bj (b:Int) (g:Ty):Bool :=
 (decide (g.min≤b))&&(decide (b≤g.max))
theorem Qy (w0:World) (B:List (List AV)) (Rw:List RowA) (L:List LoopA) (a0:Int) (a1:Ty) (r:Bool) (h:Bj a0 a1=r) :
  ACalls Tryz.prog w0 130 [.val (.int .i64 a0),.agg (a1.cs)] ⟨B,Rw,L⟩ fun x st=>x = .val (.bool r)∧st=⟨B,Rw,L⟩:=by
 rw [Bj] at h
 refine hd [.tmp 4] Tryz.func130 Tryz.ntmps130 fun M0 W0 f d b a e c hs=>?_
 simp only [Au]
 refine rg [0,3] hs ?_
 refine rg [4] hs ?_
 exact rT h hs a c
theorem Dl (w0:World) (B:List (List AV)) (Rw:List RowA) (L:List LoopA) (a0:Int) (a1:Ty) :
  ACalls Tryz.prog w0 130 [.val (.int .i64 a0),.agg (a1.cs)] ⟨B,Rw,L⟩ fun x st=>x = .val (.bool (Bj a0 a1))∧st=⟨B,Rw,L⟩:=Qy w0 B Rw L a0 a1 _ rfl
def A6 (rec:Ty→Ty→Vl→Option (Vl × Bool)) (n:Nat) (g:(List (ByteArray × Vl))→Int→Option (Vl × Bool)) (b:Int) (h:List (ByteArray × Vl)):Option (Vl × Bool) :=
 if BQ (b+1) then
  g h (b+1)
 else none
def Ej (rec:Ty→Ty→Vl→Option (Vl × Bool)) (n:Nat)  (b:List (ByteArray × Vl)):Option (Vl × Bool) :=
 (KY n b).bind fun g =>
 some ((g,true))
def AG (rec:Ty→Ty→Vl→Option (Vl × Bool)) (n:Nat) (a0:Ty) (y:Ty) (a2:Vl):Nat→(List (ByteArray × Vl))→Int→Option (Vl × Bool)
 | 0,_,_=>none
 | m+1,b,g =>
  if decide (g<(y.fields.length:Int)) then
   (B7 y.fields g).bind fun h =>
   (C4 n a0.fields h.1).bind fun q =>
   (HB n a2 q.1.2.1).bind fun s =>
   if q.2&&s.2 then
    (rec q.1.2.2.2.1 h.2.2.2.1 s.1).bind fun y23 =>
    if !y23.2 then
     some ((Vl.mk 0 0 0 ((⟨#[]⟩:ByteArray)) ([]) ([]),false))
    else
     if (b.length+1)*104≤140737488355328∧b.length+1≤4611686018427387904 then
      A6 rec n (AG rec n a0 y a2 m) g (b++([(h.2.1,y23.1)]))
     else none
   else
    if decide (h.2.2.1=1) then
     some ((Vl.mk 0 0 0 ((⟨#[]⟩:ByteArray)) ([]) ([]),false))
    else
     if decide (h.2.2.1=3) then
      (B7 h.2.2.2.2 0).bind fun x37 =>
      if (b.length+1)*104≤140737488355328∧b.length+1≤4611686018427387904 then
       A6 rec n (AG rec n a0 y a2 m) g (b++([(h.2.1,x37)]))
      else none
     else
      A6 rec n (AG rec n a0 y a2 m) g b
  else
   Ej rec n b
def Et (rec:Ty→Ty→Vl→Option (Vl × Bool)) (n:Nat) (g:Ty) (b:Ty) (h:Vl):Option (Vl × Bool) :=
 AG rec n g b h n ([]) 0
theorem MX (w0:World) (rec:Ty→Ty→Vl→Option (Vl × Bool)) (ih:∀ (B:List (List AV)) (Rw:List RowA) (L:List LoopA) (a0:Ty) (a1:Ty) (a2:Vl) (r:Vl × Bool) (h:rec a0 a1 a2=some r),ACalls Tryz.prog w0 79 [.agg (a0.cs),.agg (a1.cs),.agg (a2.cs)] ⟨B,Rw,L⟩ fun x st=>x = .tup [.agg (r.1.cs),.val (.bool r.2)]∧st=⟨B,Rw,L⟩) (n:Nat) (B:List (List AV)) (Rw:List RowA) (L:List LoopA) (a0:Ty) (a1:Ty) (a2:Vl) (r:Vl × Bool) (h:Et rec n a0 a1 a2=some r) :
  ACalls Tryz.prog w0 132 [.agg (a0.cs),.agg (a1.cs),.agg (a2.cs)] ⟨B,Rw,L⟩ fun x st=>x = .tup [.agg (r.1.cs),.val (.bool r.2)]∧st=⟨B,Rw,L⟩:=by
 rw [Et] at h
 refine hd [.cell 6 46,.tmp 7] Tryz.func132 Tryz.ntmps132 fun M0 W0 hN O U k hu q hs=>?_
 simp only [Au]
 refine rg [3,4,5,6] hs ?_
 refine rg [3,4,5,6,8] hs ?_
 refine Aw (fun e st=>∃ (p:List (ByteArray × Vl)) (t:Ev.Own),Ck e st B Rw L [(6,true,.box (B.length+3) 0),(8,true,.list (p.map BM) t)] [a0.cs,a1.cs,a2.cs,[.val (.int .i64 0),.val (.int .i64 0),.val (.int .i64 0),.val (.string ((⟨#[]⟩:ByteArray))),.list ([]) .full,.list ([]) .full]] [(7,p.length,t)] (Ej rec n p=some r)) ?_ ?_
 ·intro K5 aj
  refine rg [3,5,6,8,18,19,20] hs ?_
  apply Ak
  refine AC (fun m e st=>∃ (a:List (ByteArray × Vl)) (d:Int) (i:Ev.Own),Ck e st B Rw L [(3,true,.box B.length 0),(5,true,.box (B.length+2) 0),(6,true,.box (B.length+3) 0),(8,true,.list (a.map BM) i),(18,true,.list (a1.fields.map Cm) .none),(19,true,.val (.int .i64 (a1.fields.length:Int))),(20,true,.val (.int .i64 d))] [a0.cs,a1.cs,a2.cs,[.val (.int .i64 0),.val (.int .i64 0),.val (.int .i64 0),.val (.string ((⟨#[]⟩:ByteArray))),.list ([]) .full,.list ([]) .full]] [(7,a.length,i)] (AG rec n a0 a1 a2 m a d=some r)) n ⟨([]),0,.full,([]),Rw,ef hs,ef hs,Owns.of_eq ((q).full 7 0) EA,h⟩ ?_
  rintro ml7 e st ⟨a,d,i,Xl7,Rl7,rfl,rfl,q,h⟩ Ul7 Vl7
  cases ml7 with
  | zero=>cases h
  | succ ml7 =>
  rw [AG] at h
  have hU:=q.unders
  simp only [List.mem_cons,List.not_mem_nil,or_false,forall_eq_or_imp,forall_eq] at hU
  refine td hN O U k q ?_
  refine rg [3,5,6,8,18,19,20,21] hs ?_
  apply Ah;intro K9 Z
  refine AN h hs (fun hs h=>?_) (fun hs h=>?_)
  rotate_left
  ·refine sx [6,8] hs aj ?_
   exact ⟨a,i,([]),Rl7,ef hs,ef hs,Owns.of_eq (q) EA,h⟩
  refine sk [3,5,6,8,18,19,20] hs Z ?_
  clear Z
  refine Aw (fun e st=>∃ (g:List (ByteArray × Vl)) (j:Ev.Own),Ck e st B Rw L [(3,true,.box B.length 0),(5,true,.box (B.length+2) 0),(6,true,.box (B.length+3) 0),(8,true,.list (g.map BM) j),(18,true,.list (a1.fields.map Cm) .none),(19,true,.val (.int .i64 (a1.fields.length:Int))),(20,true,.val (.int .i64 d))] [a0.cs,a1.cs,a2.cs,[.val (.int .i64 0),.val (.int .i64 0),.val (.int .i64 0),.val (.string ((⟨#[]⟩:ByteArray))),.list ([]) .full,.list ([]) .full]] [(7,g.length,j)] (A6 rec n (AG rec n a0 a1 a2 ml7) d g=some r)) ?_ ?_
  ·intro K13 v
   apply Ak
   obtain ⟨b,aa,h⟩:=bind_some h
   obtain ⟨ag,ap,Q⟩:=AA aa
   have V:=AB (f:=Cm) Q
   have hs:=Aa V hs
   refine rg [3,5,6,8,10,18,19,20] hs ?_
   obtain ⟨c,Y,h⟩:=bind_some h
   refine rc 2 [3,5,6,8,10,11,12,18,19,20] hs ?_;intro K16 D
   refine Ai _ (EJ w0 n _ _ _ a0.fields b.1 _ Y) (hv hs) ?_
   refine ne hs D ?_
   clear D
   obtain ⟨C,ab,h⟩:=bind_some h
   refine rc 2 [3,5,6,8,10,11,12,13,14,18,19,20] hs ?_;intro K18 E
   refine Ai _ (Qp w0 n _ _ _ a2 c.1.2.1 _ ab) (hv hs) ?_
   refine ne hs E ?_
   clear E
   apply Ak
   refine rg [3,5,6,8,10,11,13,18,19,20,39] hs ?_
   refine AN h hs (fun hs h=>?_) (fun hs h=>?_)
   ·obtain ⟨ad,ae,h⟩:=bind_some h
    refine rc 2 [3,5,6,8,10,15,16,18,19,20] hs ?_;intro K22 G
    refine Ai _ (ih _ _ _ c.1.2.2.2.1 b.2.2.2.1 C.1 _ ae) (hv hs) ?_
    refine ne hs G ?_
    clear G
    apply Ah;intro K24 F
    refine rg [3,5,6,8,10,15,18,19,20,54] hs ?_
    refine AN h hs (fun hs h=>?_) (fun hs h=>?_)
    ·refine rg [6,7] hs ?_
     exact rt h hs k q
    refine sk [3,5,6,8,10,15,18,19,20] hs F ?_
    clear F
    obtain ⟨K,h⟩:=Aj h
    obtain ⟨am,z,q,o⟩:=q.append (P:=Tryz.prog) OW (by rw [JD];rfl) (by decide) 1 K.1 K.2
    replace o:=fun (ys:List AV) B L o2=>o (a.map BM) ys B L o2 EA
    replace o:=fun (y:AV) B L o2=>o [y] B L o2 EA ev
    try simp only [List.mem_singleton,List.mem_cons,List.not_mem_nil,or_false,forall_eq_or_imp,forall_eq,List.map_append,List.map_cons,List.map_nil,FP,FN,Fz,FB,FK,Fa,Ea,Eb,FA,Db,Da,Ed,Ek,Ef] at o
    have hs:=Aa o hs
    refine rl [3,5,6,8,18,19,20] hs v ?_
    exact ⟨(a++([(b.2.1,ad.1)])),am,([.val (.int .i64 b.1)::(.val (.string b.2.1)::(.val (.int .i64 b.2.2.1)::((b.2.2.2.1.cs)++([.list (b.2.2.2.2.map Bo) .none])))),.val (.int .i64 c.1.1)::(.val (.string c.1.2.1)::(.val (.int .i64 c.1.2.2.1)::((c.1.2.2.2.1.cs)++([.list (c.1.2.2.2.2.map Bo) .none])))),C.1.cs,ad.1.cs]),z,ef hs,ef hs,Owns.of_eq (q) EA,h⟩
   refine rg [3,5,6,8,10,18,19,20,63] hs ?_
   refine AN h hs (fun hs h=>?_) (fun hs h=>?_)
   ·refine rg [6,7] hs ?_
    exact rt h hs k q
   refine rg [3,5,6,8,10,18,19,20,68] hs ?_
   refine AN h hs (fun hs h=>?_) (fun hs h=>?_)
   ·obtain ⟨ak,ao,ah,u,h⟩:=ix Bo h
    have N:(b.2.2.2.2.map Bo).getD 0 .junk=_:=u
    obtain ⟨J,h⟩:=Aj h
    obtain ⟨ai,w,q,l⟩:=q.append (P:=Tryz.prog) OW (by rw [JD];rfl) (by decide) 1 J.1 J.2
    replace l:=fun (ys:List AV) B L o2=>l (a.map BM) ys B L o2 EA
    replace l:=fun (y:AV) B L o2=>l [y] B L o2 EA ev
    try simp only [List.mem_singleton,List.mem_cons,List.not_mem_nil,or_false,forall_eq_or_imp,forall_eq,List.map_append,List.map_cons,List.map_nil,FP,FN,Fz,FB,FK,Fa,Ea,Eb,FA,Db,Da,Ed,Ek,Ef] at l
    have hs:=Aa u hs
    have hs:=Aa N hs
    have hs:=Aa l hs
    refine dl 9 1 1 [3,5,6,8,18,19,20] hs HH v ?_
    exact ⟨(a++([(b.2.1,ak)])),ai,([.val (.int .i64 b.1)::(.val (.string b.2.1)::(.val (.int .i64 b.2.2.1)::((b.2.2.2.1.cs)++([.list (b.2.2.2.2.map Bo) .none])))),.val (.int .i64 c.1.1)::(.val (.string c.1.2.1)::(.val (.int .i64 c.1.2.2.1)::((c.1.2.2.2.1.cs)++([.list (c.1.2.2.2.2.map Bo) .none])))),C.1.cs]),w,ef hs,ef hs,Owns.of_eq (q) EA,h⟩
   refine sk [3,5,6,8,18,19,20] hs v ?_
   exact ⟨a,i,([.val (.int .i64 b.1)::(.val (.string b.2.1)::(.val (.int .i64 b.2.2.1)::((b.2.2.2.1.cs)++([.list (b.2.2.2.2.map Bo) .none])))),.val (.int .i64 c.1.1)::(.val (.string c.1.2.1)::(.val (.int .i64 c.1.2.2.1)::((c.1.2.2.2.1.cs)++([.list (c.1.2.2.2.2.map Bo) .none])))),C.1.cs]),Rl7,ef hs,ef hs,Owns.of_eq (q) EA,h⟩
  ·clear h;rintro e st ⟨g,j,Xk12,Rk12,rfl,rfl,q,h⟩
   rw [A6] at h
   have hU:=q.unders
   simp only [List.mem_cons,List.not_mem_nil,or_false,forall_eq_or_imp,forall_eq] at hU
   refine td hN O U k q ?_
   obtain ⟨aq,h⟩:=Aj h
   refine rl [3,5,6,8,18,19,20] hs (fun e s=>Vl7 ml7 e s (Nat.lt_succ_self _)) ?_
   exact ⟨g,(d+1),j,([]),Rk12,ef hs,ef hs,Owns.of_eq (q) EA,h⟩
 ·clear h;rintro e st ⟨p,t,Xk4,Rk4,rfl,rfl,q,h⟩
  rw [Ej] at h
  have hU:=q.unders
  simp only [List.mem_cons,List.not_mem_nil,or_false,forall_eq_or_imp,forall_eq] at hU
  refine td hN O U k q ?_
  obtain ⟨ar,af,h⟩:=bind_some h
  refine rc 2 [6,7] hs ?_;intro K43 H
  refine Ai _ (ZA w0 n _ _ _ p _ af) (hv hs) ?_
  refine ne hs H ?_
  clear H
  exact rt h hs k q
def Gq (rec:Ty→Ty→Vl→Option (Vl × Bool)) (n:Nat) (b:Ty) (g:Vl) (b4_k41_4:List Vl):Option (Vl × Bool) :=
 some ((Vl.mk 8 0 0 ((⟨#[]⟩:ByteArray)) b4_k41_4 ([]),Bj (g.list.length:Int) b))
def GR (rec:Ty→Ty→Vl→Option (Vl × Bool)) (n:Nat) (b:Vl):Option (Vl × Bool) :=
 some ((b,true))
def Dp (rec:Ty→Ty→Vl→Option (Vl × Bool)) (n:Nat) (a0:Ty) (a1:Ty) (h:Vl):Nat→Int→(List Vl)→Option (Vl × Bool)
 | 0,_,_=>none
 | m+1,b,b4_l44_4 =>
  if decide (b<(h.list.length:Int)) then
   (B7 h.list b).bind fun q =>
   (B7 a0.elem 0).bind fun s =>
   (B7 a1.elem 0).bind fun y =>
   (rec s y q).bind fun g =>
   if !g.2 then
    some ((Vl.mk 0 0 0 ((⟨#[]⟩:ByteArray)) ([]) ([]),false))
   else
    if (b4_l44_4.length+1)*88≤140737488355328∧b4_l44_4.length+1≤4611686018427387904 then
     if BQ (b+1) then
      (Dp rec n a0 a1 h m) (b+1) (b4_l44_4++([g.1]))
     else none
    else none
  else
   Gq rec n a1 h b4_l44_4
def BI (rec:Ty→Ty→Vl→Option (Vl × Bool)) (n:Nat) (a0:Ty) (g:Ty) (b:Vl) (h:Bool):Option (Vl × Bool) :=
 if h then
  some ((b,Bj b.int g))
 else
  if decide (g.kind=5) then
   some ((b,Bj (b.text.size:Int) g))
  else
   if decide (g.kind=4) then
    if decide (0<(g.words.length:Int)) then
     (BG n g.words b.text).bind fun y35 =>
     some ((b,y35))
    else
     some ((b,Bj (b.text.size:Int) g))
   else
    if decide (g.kind=8) then
     Dp rec n a0 g b n 0 ([])
    else
     if decide (g.kind=9) then
      (Et rec n a0 g b).bind fun y68 =>
      some ((y68.1,y68.2))
     else
      if decide (g.kind=10) then
       (I2 n a0 b.text).bind fun y =>
       (C4 n g.fields y.1.1).bind fun q =>
       if !q.2 then
        some ((Vl.mk 0 0 0 ((⟨#[]⟩:ByteArray)) ([]) ([]),false))
       else
        (B7 b.list 0).bind fun x80 =>
        (rec y.1.2.2.2.1 q.1.2.2.2.1 x80).bind fun s =>
        (Jz n q.1.2.1 s.1).bind fun y83 =>
        some ((y83,s.2))
      else
       GR rec n b 
def BJ (rec:Ty→Ty→Vl→Option (Vl × Bool)) (n:Nat) (q:Ty) (g:Ty) (s:Vl) (b:Bool):Option (Vl × Bool) :=
 if b then
  (Dx n s.int q.scale g.scale).bind fun h =>
  some ((Vl.mk g.kind h.1 g.scale ((⟨#[]⟩:ByteArray)) ([]) ([]),h.2&&(Bj h.1 g)))
 else
  if decide (g.kind=6) then
   BI rec n q g s true
  else
   BI rec n q g s (decide (g.kind=7))
def FQ (rec:Ty→Ty→Vl→Option (Vl × Bool)) (n:Nat) (g:Ty) (b:Ty) (h:Vl):Option (Vl × Bool) :=
 if !(Dy g.kind b.kind) then
  some ((Vl.mk 0 0 0 ((⟨#[]⟩:ByteArray)) ([]) ([]),false))
 else
  if decide (b.kind=2) then
   BJ rec n g b h true
  else
   BJ rec n g b h (decide (b.kind=3))
def AH:Nat→Ty→Ty→Vl→Option (Vl × Bool)
 | 0,_,_,_=>none
 | n+1,g,b,h=>FQ (AH n) n g b h
def I7 (w0:World) (F:Ty→Ty→Vl→Option (Vl × Bool)):Prop:=∀ (B:List (List AV)) (Rw:List RowA) (L:List LoopA) (h:Ty) (b:Ty) (g:Vl) (r:Vl × Bool),F h b g=some r→ACalls Tryz.prog w0 79 [.agg (h.cs),.agg (b.cs),.agg (g.cs)] ⟨B,Rw,L⟩ fun x st=>x = .tup [.agg (r.1.cs),.val (.bool r.2)]∧st=⟨B,Rw,L⟩
theorem PK (w0:World) (rec:Ty→Ty→Vl→Option (Vl × Bool)) (ih:I7 w0 rec) (n:Nat):I7 w0 (FQ rec n):=by
 intro B Rw L a0 a1 a2 r h
 rw [FQ] at h
 refine hd [.cell 6 46,.tmp 7] Tryz.func79 Tryz.ntmps79 fun M0 W0 hN V Y b hu C hs=>?_
 simp only [Au]
 refine rg [3,4,5,6] hs ?_
 apply Ah;intro K2 bd
 refine rc 2 [3,4,5,6,25] hs ?_;intro K3 bb
 refine Ai _ (JY w0 _ _ _ a0.kind a1.kind) (hv hs) ?_
 refine ne hs bb ?_
 clear bb
 refine AN h hs (fun hs h=>?_) (fun hs h=>?_)
 ·have l:=hs.1
  refine rg [6,7] hs ?_
  exact rt h hs b C
 have l:=hs.1
 refine sk [3,4,5,6] hs bd ?_
 clear bd
 refine Aw (fun e st=>Ck e st B Rw L [(5,true,.box (B.length+2) 0),(6,true,.box (B.length+3) 0)] [a0.cs,a1.cs,a2.cs,[.val (.int .i64 0),.val (.int .i64 0),.val (.int .i64 0),.val (.string ((⟨#[]⟩:ByteArray))),.list ([]) .full,.list ([]) .full]] [] (GR rec n a2  = some r)) ?_ ?_
 ·intro K8 bi
  refine rg [3,4,5,6,28] hs ?_
  apply Ak
  refine Aw (fun e st=>∃ (N:Bool),Ck e st B Rw L [(3,true,.box B.length 0),(4,true,.box (B.length+1) 0),(5,true,.box (B.length+2) 0),(6,true,.box (B.length+3) 0),(28,true,.val (.int .i64 a1.kind)),(29,true,.val (.bool N))] [a0.cs,a1.cs,a2.cs,[.val (.int .i64 0),.val (.int .i64 0),.val (.int .i64 0),.val (.string ((⟨#[]⟩:ByteArray))),.list ([]) .full,.list ([]) .full]] [] (BJ rec n a0 a1 a2 N=some r)) ?_ ?_
  ·intro K12 ab
   refine rg [3,4,5,6,28,29] hs ?_
   refine AN h hs (fun hs h=>?_) (fun hs h=>?_)
   ·refine sk [3,4,5,6,28,29] hs ab ?_
    exact ⟨true,([]),Rw,ef hs,ef hs,C,h⟩
   refine rl [3,4,5,6,28,29] hs ab ?_
   exact ⟨(decide (a1.kind=3)),([]),Rw,ef hs,ef hs,C,h⟩
  ·clear h;rintro e st ⟨N,Xk11,Rk11,rfl,rfl,C,h⟩
   rw [BJ] at h
   refine td hN V Y b C ?_
   refine AN h hs (fun hs h=>?_) (fun hs h=>?_)
   ·have a:=hs.1
    obtain ⟨bm,ba,h⟩:=bind_some h
    refine rc 2 [4,6,8,9] hs ?_;intro K16 aa
    refine Ai _ (IH w0 n _ _ _ a2.int a0.scale a1.scale _ ba) (hv hs) ?_
    refine ne hs aa ?_
    clear aa
    apply Ah;intro K18 ar
    apply Ho HH [12] [6,7] kr (fun s=>∃ (X:List (List AV)) (rows:List RowA) (c3:List AV),s=⟨B++([a0.cs,a1.cs,a2.cs,c3]++X),rows,L⟩) 2 (B.length+4)
    ·simp +decide only [go_sem,Nat.reduceAdd]
    ·rintro s ⟨X,rows,c3,rfl⟩
     refine ⟨2,?_⟩
     rw [Am];simp +decide only [go_sem,Nat.reduceAdd,Eh,and_self,imp_self,l,a]
     (repeat' apply Aa)<;>first | refine H5 _ (fun _=>Dl w0 _ _ _ bm.1 a1) (hv hs) ?_ | exact cl
     rw [Am];simp +decide only [go_sem,Nat.reduceAdd,and_self,imp_self,l,a]
     (repeat' apply Aa)<;>first | rfl | exact cl
    ·refine Good.mk [12] kr ⟨[],_,_,by first | rfl | simp only [List.append_nil,List.nil_append]⟩ ?_ ?_
     ·intro h;exact absurd h (by decide)
     ·intro i hi;simp only [List.mem_cons,List.not_mem_nil,or_false] at hi
      subst hi
      ·apply BU rfl rfl ev
       ·simp +decide only [go_sem,Nat.reduceAdd,DU,l,a]
        (repeat' apply Aa)<;>first | rfl | exact cl
       ·simp +decide only [go_sem,Nat.reduceAdd,l,a]
        refine Good.mk [] kr ⟨[],_,_,by first | rfl | simp only [List.append_nil,List.nil_append]⟩ ?_ ?_
        ·intro _;apply CO [6,7];first | (simp +decide only [go_sem,Nat.reduceAdd,and_self,imp_self,l,a];done) | (simp +decide only [go_sem,Nat.reduceAdd,and_self,imp_self,l,a];rfl)
        ·intro i hi;cases hi
    simp +decide only [go_sem,Nat.reduceAdd,and_self,imp_self,l,a]
    (repeat' apply Aa)<;>first | refine ar _ _ ?_ | exact cl
    clear ar
    exact rt h hs b C
   have a:=hs.1
   refine Aw (fun e st=>∃ (O:Bool),Ck e st B Rw L [(3,true,.box B.length 0),(4,true,.box (B.length+1) 0),(5,true,.box (B.length+2) 0),(6,true,.box (B.length+3) 0),(28,true,.val (.int .i64 a1.kind)),(54,true,.val (.bool O))] [a0.cs,a1.cs,a2.cs,[.val (.int .i64 0),.val (.int .i64 0),.val (.int .i64 0),.val (.string ((⟨#[]⟩:ByteArray))),.list ([]) .full,.list ([]) .full]] [] (BI rec n a0 a1 a2 O=some r)) ?_ ?_
   ·intro K21 ai
    refine rg [3,4,5,6,28,54] hs ?_
    refine AN h hs (fun hs h=>?_) (fun hs h=>?_)
    ·refine sk [3,4,5,6,28,54] hs ai ?_
     exact ⟨true,([]),Rk11,ef hs,ef hs,C,h⟩
    refine rl [3,4,5,6,28,54] hs ai ?_
    exact ⟨(decide (a1.kind=7)),([]),Rk11,ef hs,ef hs,C,h⟩
   ·clear h;rintro e st ⟨O,Xk20,Rk20,rfl,rfl,C,h⟩
    rw [BI] at h
    refine td hN V Y b C ?_
    refine AN h hs (fun hs h=>?_) (fun hs h=>?_)
    ·have k:=hs.1
     apply Ah;intro K25 ap
     refine dk 5 2 1 [6,7] hs HH ?_
     refine Ai _ (Dl w0 _ _ _ a2.int a1) (hv hs) ?_
     refine dn hs ap ?_
     clear ap
     exact rt h hs b C
    have k:=hs.1
    refine rg [3,4,5,6,28,62] hs ?_
    refine AN h hs (fun hs h=>?_) (fun hs h=>?_)
    ·have d:=hs.1
     apply Ah;intro K28 ak
     refine dk 6 2 1 [6,7] hs HH ?_
     refine Ai _ (Dl w0 _ _ _ (a2.text.size:Int) a1) (hv hs) ?_
     refine dn hs ak ?_
     clear ak
     exact rt h hs b C
    have d:=hs.1
    refine rg [3,4,5,6,28,70] hs ?_
    refine AN h hs (fun hs h=>?_) (fun hs h=>?_)
    ·have j:=hs.1
     apply Ah;intro K31 aq
     refine rg [4,5,6,75] hs ?_
     refine AN h hs (fun hs h=>?_) (fun hs h=>?_)
     ·obtain ⟨b0,bg,h⟩:=bind_some h
      apply Ah;intro K34 ag
      refine dk 6 2 1 [6,7] hs HH ?_
      refine Ai _ (EO w0 n _ _ _ a1.words a2.text _ bg) (hv hs) ?_
      refine dn hs ag ?_
      clear ag
      exact rt h hs b C
     refine sk [4,5,6] hs aq ?_
     clear aq
     apply Ah;intro K36 ax
     refine dk 6 2 1 [6,7] hs HH ?_
     refine Ai _ (Dl w0 _ _ _ (a2.text.size:Int) a1) (hv hs) ?_
     refine dn hs ax ?_
     clear ax
     exact rt h hs b C
    have j:=hs.1
    refine rg [3,4,5,6,28,88] hs ?_
    refine AN h hs (fun hs h=>?_) (fun hs h=>?_)
    ·have g:=hs.1
     refine rg [3,4,5,6,10] hs ?_
     refine Aw (fun e st=>∃ (z:List Vl) (H:Ev.Own),Ck e st B Rw L [(4,true,.box (B.length+1) 0),(5,true,.box (B.length+2) 0),(6,true,.box (B.length+3) 0),(10,true,.box (B.length+4) 0)] [a0.cs,a1.cs,a2.cs,[.val (.int .i64 0),.val (.int .i64 0),.val (.int .i64 0),.val (.string ((⟨#[]⟩:ByteArray))),.list ([]) .full,.list ([]) .full],[.val (.int .i64 8),.val (.int .i64 0),.val (.int .i64 0),.val (.string ((⟨#[]⟩:ByteArray))),.list (z.map Bo) H,.list ([]) .full]] [(6,z.length,H)] (Gq rec n a1 a2 z=some r)) ?_ ?_
     ·intro K42 bc
      refine rg [3,4,5,6,10,92,93,94] hs ?_
      apply Ak
      refine AC (fun m e st=>∃ (J:Int) (c:List Vl) (w:Ev.Own),Ck e st B Rw L [(3,true,.box B.length 0),(4,true,.box (B.length+1) 0),(5,true,.box (B.length+2) 0),(6,true,.box (B.length+3) 0),(10,true,.box (B.length+4) 0),(92,true,.list (a2.list.map Bo) .none),(93,true,.val (.int .i64 (a2.list.length:Int))),(94,true,.val (.int .i64 J))] [a0.cs,a1.cs,a2.cs,[.val (.int .i64 0),.val (.int .i64 0),.val (.int .i64 0),.val (.string ((⟨#[]⟩:ByteArray))),.list ([]) .full,.list ([]) .full],[.val (.int .i64 8),.val (.int .i64 0),.val (.int .i64 0),.val (.string ((⟨#[]⟩:ByteArray))),.list (c.map Bo) w,.list ([]) .full]] [(6,c.length,w)] (Dp rec n a0 a1 a2 m J c=some r)) n ⟨0,([]),.full,([]),Rk20,ef hs,ef hs,Owns.of_eq ((C).full 6 0) EA,h⟩ ?_
      rintro ml44 e st ⟨J,c,w,Xl44,Rl44,rfl,rfl,C,h⟩ Ul44 Vl44
      cases ml44 with
      | zero=>cases h
      | succ ml44 =>
      rw [Dp] at h
      have hU:=C.unders
      simp only [List.mem_cons,List.not_mem_nil,or_false,forall_eq_or_imp,forall_eq] at hU
      refine td hN V Y b C ?_
      refine rg [3,4,5,6,10,92,93,94,95] hs ?_
      apply Ah;intro K46 ao
      refine AN h hs (fun hs h=>?_) (fun hs h=>?_)
      rotate_left
      ·have G:=hs.1
       refine sx [4,5,6,10] hs bc ?_
       exact ⟨c,w,([]),Rl44,ef hs,ef hs,Owns.of_eq (C) EA,h⟩
      have G:=hs.1
      refine sk [3,4,5,6,10,92,93,94] hs ao ?_
      clear ao
      apply Ah;intro K48 ae
      apply Ak
      obtain ⟨a3,be,h⟩:=bind_some h
      obtain ⟨bt,bw,a4⟩:=AA be
      have x:=AB (f:=Bo) a4
      have hs:=Aa x hs
      refine rg [3,4,5,6,10,12,92,93,94] hs ?_
      apply Ah;intro K51 av
      obtain ⟨bn,br,bj,o,h⟩:=ix HF h
      have t:(a0.elem.map HF).getD 0 .junk=_:=o
      obtain ⟨bv,bl,bs,p,h⟩:=ix HF h
      have v:(a1.elem.map HF).getD 0 .junk=_:=p
      obtain ⟨a8,a9,h⟩:=bind_some h
      apply Ho HH [13,14] [3,4,5,6,10,13,14,92,93,94] kr (fun s=>∃ (X:List (List AV)) (rows:List RowA),s=⟨B++([a0.cs,a1.cs,a2.cs,[.val (.int .i64 0),.val (.int .i64 0),.val (.int .i64 0),.val (.string ((⟨#[]⟩:ByteArray))),.list ([]) .full,.list ([]) .full],[.val (.int .i64 8),.val (.int .i64 0),.val (.int .i64 0),.val (.string ((⟨#[]⟩:ByteArray))),.list (c.map Bo) w,.list ([]) .full],a3.cs]++X),rows,L⟩) 3 (B.length+6)
      ·simp +decide only [go_sem,Nat.reduceAdd]
      ·rintro s ⟨X,rows,rfl⟩
       refine ⟨2,?_⟩
       rw [Am];simp +decide only [go_sem,Nat.reduceAdd,Eh,l,a,k,d,j,g,G,x,o,t,p,v]
       have hs:=Aa o hs
       have hs:=Aa t hs
       have hs:=Aa p hs
       have hs:=Aa v hs
       (repeat' apply Aa)<;>first | refine Ai _ (ih _ _ _ bn bv a3 _ a9) (hv hs) ?_ | exact cl
       rw [Am];simp +decide only [go_sem,Nat.reduceAdd,l,a,k,d,j,g,G,x,o,t,p,v]
       (repeat' apply Aa)<;>first | rfl | exact cl
      ·refine Good.mk [13] kr ⟨[],_,by first | rfl | simp only [List.append_nil,List.nil_append]⟩ ?_ ?_
       ·intro h;exact absurd h (by decide)
       ·intro i hi;simp only [List.mem_cons,List.not_mem_nil,or_false] at hi
        subst hi
        ·apply BU rfl rfl ev
         ·simp +decide only [go_sem,Nat.reduceAdd,DU,l,a,k,d,j,g,G,x,o,t,p,v]
          (repeat' apply Aa)<;>first | rfl | exact cl
         ·simp +decide only [go_sem,Nat.reduceAdd,l,a,k,d,j,g,G,x,o,t,p,v]
          refine Good.mk [14] kr ⟨_,_,by first | rfl | simp only [List.append_nil,List.nil_append]⟩ ?_ ?_
          ·intro h;exact absurd h (by decide)
          ·intro i hi;simp only [List.mem_cons,List.not_mem_nil,or_false] at hi
           subst hi
           ·apply BU rfl rfl ev
            ·simp +decide only [go_sem,Nat.reduceAdd,DU,l,a,k,d,j,g,G,x,o,t,p,v]
             (repeat' apply Aa)<;>first | rfl | exact cl
            ·simp +decide only [go_sem,Nat.reduceAdd,l,a,k,d,j,g,G,x,o,t,p,v]
             refine Good.mk [] kr ⟨_,_,by first | rfl | simp only [List.append_nil,List.nil_append]⟩ ?_ ?_
             ·intro _;apply CO [3,4,5,6,10,13,14,92,93,94];first | (simp +decide only [go_sem,Nat.reduceAdd,l,a,k,d,j,g,G,x,o,t,p,v];done) | (simp +decide only [go_sem,Nat.reduceAdd,l,a,k,d,j,g,G,x,o,t,p,v];rfl)
             ·intro i hi;cases hi
      simp +decide only [go_sem,Nat.reduceAdd,l,a,k,d,j,g,G,x,o,t,p,v]
      (repeat' apply Aa)<;>first | refine av _ _ ?_ | exact cl
      clear av
      apply Ah;intro K55 am
      have hs:=Aa o hs
      have hs:=Aa t hs
      have hs:=Aa p hs
      have hs:=Aa v hs
      refine rg [3,4,5,6,10,13,92,93,94,112] hs ?_
      refine AN h hs (fun hs h=>?_) (fun hs h=>?_)
      ·refine rg [6,7] hs ?_
       exact rt h hs b C
      refine sk [3,4,5,6,10,13,92,93,94] hs am ?_
      clear am
      obtain ⟨ah,h⟩:=Aj h
      obtain ⟨bq,Z,C,K⟩:=C.append (P:=Tryz.prog) RY (by rw [MR];rfl) (by decide) 1 ah.1 ah.2
      replace K:=fun (ys:List AV) B L o2=>K (c.map Bo) ys B L o2 EA
      replace K:=fun (y:AV) B L o2=>K [y] B L o2 EA ev
      try simp only [List.mem_singleton,List.mem_cons,List.not_mem_nil,or_false,forall_eq_or_imp,forall_eq,List.map_append,List.map_cons,List.map_nil,FP,FN,Fz,FB,FK,Fa,Ea,Eb,FA,Db,Da,Ed,Ek,Ef] at K
      have hs:=Aa K hs
      refine rl [3,4,5,6,10,92,93,94] hs ae ?_
      clear ae
      obtain ⟨bx,h⟩:=Aj h
      refine rl [3,4,5,6,10,92,93,94] hs (fun e s=>Vl44 ml44 e s (Nat.lt_succ_self _)) ?_
      exact ⟨(J+1),(c++([a8.1])),bq,([a3.cs,a8.1.cs]),Z,ef hs,ef hs,Owns.of_eq (C) EA,h⟩
     ·clear h;rintro e st ⟨z,H,Xk41,Rk41,rfl,rfl,C,h⟩
      rw [Gq] at h
      have hU:=C.unders
      simp only [List.mem_cons,List.not_mem_nil,or_false,forall_eq_or_imp,forall_eq] at hU
      refine td hN V Y b C ?_
      apply Ah;intro K64 aw
      refine dk 6 2 1 [6,7] hs HH ?_
      refine Ai _ (Dl w0 _ _ _ (a2.list.length:Int) a1) (hv hs) ?_
      refine dn hs aw ?_
      clear aw
      exact rt h hs b C
    have g:=hs.1
    refine rg [3,4,5,6,28,127] hs ?_
    refine AN h hs (fun hs h=>?_) (fun hs h=>?_)
    ·have F:=hs.1
     obtain ⟨bz,bh,h⟩:=bind_some h
     refine rc 2 [6,7] hs ?_;intro K67 ay
     refine Ai _ (MX w0 rec ih n _ _ _ a0 a1 a2 _ bh) (hv hs) ?_
     refine ne hs ay ?_
     clear ay
     exact rt h hs b C
    have F:=hs.1
    refine rg [3,4,5,6,135] hs ?_
    refine AN h hs (fun hs h=>?_) (fun hs h=>?_)
    ·have E:=hs.1
     obtain ⟨Q,a6,h⟩:=bind_some h
     refine rc 2 [4,5,6,15] hs ?_;intro K71 az
     refine Ai _ (Qg w0 n _ _ _ a0 a2.text _ a6) (hv hs) ?_
     refine ne hs az ?_
     clear az
     obtain ⟨U,a7,h⟩:=bind_some h
     refine rc 2 [5,6,15,17,18] hs ?_;intro K73 ad
     refine Ai _ (EJ w0 n _ _ _ a1.fields Q.1.1 _ a7) (hv hs) ?_
     refine ne hs ad ?_
     clear ad
     apply Ah;intro K75 au
     refine rg [5,6,15,17,153] hs ?_
     refine AN h hs (fun hs h=>?_) (fun hs h=>?_)
     ·have D:=hs.1
      refine rg [6,7] hs ?_
      exact rt h hs b C
     have D:=hs.1
     refine sk [5,6,15,17] hs au ?_
     clear au
     apply Ah;intro K79 af
     obtain ⟨bo,bk,bu,q,h⟩:=ix Bo h
     have u:(a2.list.map Bo).getD 0 .junk=_:=q
     obtain ⟨bp,a5,h⟩:=bind_some h
     apply Ho HH [12,13] [6,17,18,19] kr (fun s=>∃ (X:List (List AV)) (rows:List RowA),s=⟨B++([a0.cs,a1.cs,a2.cs,[.val (.int .i64 0),.val (.int .i64 0),.val (.int .i64 0),.val (.string ((⟨#[]⟩:ByteArray))),.list ([]) .full,.list ([]) .full],.val (.int .i64 Q.1.1)::(.val (.string Q.1.2.1)::(.val (.int .i64 Q.1.2.2.1)::((Q.1.2.2.2.1.cs)++([.list (Q.1.2.2.2.2.map Bo) .none])))),.val (.int .i64 U.1.1)::(.val (.string U.1.2.1)::(.val (.int .i64 U.1.2.2.1)::((U.1.2.2.2.1.cs)++([.list (U.1.2.2.2.2.map Bo) .none]))))]++X),rows,L⟩) 3 (B.length+6)
     ·simp +decide only [go_sem,Nat.reduceAdd]
     ·rintro s ⟨X,rows,rfl⟩
      refine ⟨2,?_⟩
      rw [Am];simp +decide only [go_sem,Nat.reduceAdd,Eh,l,a,k,d,j,g,F,E,D,q,u]
      have hs:=Aa q hs
      have hs:=Aa u hs
      (repeat' apply Aa)<;>first | refine Ai _ (ih _ _ _ Q.1.2.2.2.1 U.1.2.2.2.1 bo _ a5) (hv hs) ?_ | exact cl
      rw [Am];simp +decide only [go_sem,Nat.reduceAdd,l,a,k,d,j,g,F,E,D,q,u]
      (repeat' apply Aa)<;>first | rfl | exact cl
     ·refine Good.mk [12] kr ⟨[],_,by first | rfl | simp only [List.append_nil,List.nil_append]⟩ ?_ ?_
      ·intro h;exact absurd h (by decide)
      ·intro i hi;simp only [List.mem_cons,List.not_mem_nil,or_false] at hi
       subst hi
       ·apply BU rfl rfl ev
        ·simp +decide only [go_sem,Nat.reduceAdd,DU,l,a,k,d,j,g,F,E,D,q,u]
         (repeat' apply Aa)<;>first | rfl | exact cl
        ·simp +decide only [go_sem,Nat.reduceAdd,l,a,k,d,j,g,F,E,D,q,u]
         refine Good.mk [13] kr ⟨_,_,by first | rfl | simp only [List.append_nil,List.nil_append]⟩ ?_ ?_
         ·intro h;exact absurd h (by decide)
         ·intro i hi;simp only [List.mem_cons,List.not_mem_nil,or_false] at hi
          subst hi
          ·apply BU rfl rfl ev
           ·simp +decide only [go_sem,Nat.reduceAdd,DU,l,a,k,d,j,g,F,E,D,q,u]
            (repeat' apply Aa)<;>first | rfl | exact cl
           ·simp +decide only [go_sem,Nat.reduceAdd,l,a,k,d,j,g,F,E,D,q,u]
            refine Good.mk [] kr ⟨_,_,by first | rfl | simp only [List.append_nil,List.nil_append]⟩ ?_ ?_
            ·intro _;apply CO [6,17,18,19];first | (simp +decide only [go_sem,Nat.reduceAdd,l,a,k,d,j,g,F,E,D,q,u];done) | (simp +decide only [go_sem,Nat.reduceAdd,l,a,k,d,j,g,F,E,D,q,u];rfl)
            ·intro i hi;cases hi
     simp +decide only [go_sem,Nat.reduceAdd,l,a,k,d,j,g,F,E,D,q,u]
     (repeat' apply Aa)<;>first | refine af _ _ ?_ | exact cl
     clear af
     obtain ⟨b1,bf,h⟩:=bind_some h
     have hs:=Aa q hs
     have hs:=Aa u hs
     refine rc 2 [6,7] hs ?_;intro K82 aj
     refine Ai _ (XO w0 n _ _ _ U.1.2.1 bp.1 _ bf) (hv hs) ?_
     refine ne hs aj ?_
     clear aj
     exact rt h hs b C
    have E:=hs.1
    refine sk [5,6] hs bi ?_
    exact ⟨([]),Rk20,ef hs,ef hs,C,h⟩
 ·clear h;rintro e st ⟨Xk7,Rk7,rfl,rfl,C,h⟩
  rw [GR] at h
  refine td hN V Y b C ?_
  refine rg [6,7] hs ?_
  exact rt h hs b C
theorem Iz (w0:World):∀ n:Nat,I7 w0 (AH n)
 | 0=>fun _ _ _ _ _ _ _ h=>(nomatch h)
 | n+1=>PK w0 (AH n) (Iz w0 n) n
def Ky (n:Nat) (g:List (ByteArray × Vl)) (h:ByteArray × Vl) (b:Int):Option ((List (ByteArray × Vl))) :=
 if 0≤0∧0≤b∧b≤(g.length:Int) then
  if (0+(g.take b.toNat).length)*104≤140737488355328∧0+(g.take b.toNat).length≤4611686018427387904 then
   if ((g.take b.toNat).length+1)*104≤140737488355328∧(g.take b.toNat).length+1≤4611686018427387904 then
    if 0≤b∧b≤(g.length:Int)∧(g.length:Int)≤(g.length:Int) then
     if ((g.take b.toNat).length+1+(g.drop b.toNat).length)*104≤140737488355328∧(g.take b.toNat).length+1+(g.drop b.toNat).length≤4611686018427387904 then
      some (((g.take b.toNat)++([h]))++(g.drop b.toNat))
     else none
    else none
   else none
  else none
 else none
def Kw (n:Nat) (q:List (ByteArray × Vl)) (g:ByteArray × Vl):Nat→Int→Option ((List (ByteArray × Vl)))
 | 0,_=>none
 | m+1,b =>
  if decide (0<b) then
   if BQ (b-1) then
    (B7 q (b-1)).bind fun h =>
    if !(WT h.1 g.1||Cb h.1 g.1) then
     if BQ (b-1) then
      (Kw n q g m) (b-1)
     else none
    else
     Ky n q g b
   else none
  else
   Ky n q g b
def JJ (n:Nat) (b:List (ByteArray × Vl)) (g:ByteArray × Vl):Option ((List (ByteArray × Vl))) :=
 Kw n b g n (b.length:Int)
def A3 (b:Ty):Int :=
 if decide (b.kind=2) then
  0
 else
  if decide (b.kind=3) then
   b.scale
  else
   (-1)
def Wy (rec:Ty→Ty→Vl→Option (Vl × Bool)) (n:Nat) (b:Ty) (g:Vl) (b3_k38_4:List Vl):Option (Vl × Bool) :=
 some ((Vl.mk 8 0 0 ((⟨#[]⟩:ByteArray)) b3_k38_4 ([]),Bi (g.list.length:Int) b))
def Zb3 (rec:Ty→Ty→Vl→Option (Vl × Bool)) (n:Nat)  : Option (Vl × Bool) :=
 some ((Vl.mk 0 0 0 ((⟨#[]⟩:ByteArray)) ([]) ([]),false))
def I4 (rec:Ty→Ty→Vl→Option (Vl × Bool)) (n:Nat) (g:Int→(List (ByteArray × Vl))→Option (Vl × Bool)) (b:Int) (b3_k94_5:List (ByteArray × Vl)):Option (Vl × Bool) :=
 if BQ (b+1) then
  g (b+1) b3_k94_5
 else none
def V2 (rec:Ty→Ty→Vl→Option (Vl × Bool)) (n:Nat)  (b3_k86_5:List (ByteArray × Vl)):Option (Vl × Bool) :=
 some ((Vl.mk 9 0 0 ((⟨#[]⟩:ByteArray)) ([]) b3_k86_5,true))
def MM (rec:Ty→Ty→Vl→Option (Vl × Bool)) (n:Nat) (a0:Ty) (a1:Ty) (h:Vl):Nat→Int→(List Vl)→Option (Vl × Bool)
 | 0,_,_=>none
 | m+1,b,b3_l41_4 =>
  if decide (b<(h.list.length:Int)) then
   (B7 a0.elem 0).bind fun s =>
   (B7 a1.elem 0).bind fun q =>
   (B7 h.list b).bind fun y =>
   (rec s q y).bind fun g =>
   if !g.2 then
    some ((Vl.mk 0 0 0 ((⟨#[]⟩:ByteArray)) ([]) ([]),false))
   else
    if (b3_l41_4.length+1)*88≤140737488355328∧b3_l41_4.length+1≤4611686018427387904 then
     if BQ (b+1) then
      (MM rec n a0 a1 h m) (b+1) (b3_l41_4++([g.1]))
     else none
    else none
  else
   Wy rec n a1 h b3_l41_4
def M8 (rec:Ty→Ty→Vl→Option (Vl × Bool)) (n:Nat) (s:Ty) (a1:Ty) (y:Vl):Nat→Int→Option (Vl × Bool)
 | 0,_=>none
 | m+1,b =>
  if decide (b<(s.fields.length:Int)) then
   (B7 s.fields b).bind fun g =>
   (Gz n a1 g.1).bind fun h =>
   if (!(Cb g.2.1 y.text))||(!h.2) then
    if BQ (b+1) then
     (M8 rec n s a1 y m) (b+1)
    else none
   else
    (B7 y.list 0).bind fun x80 =>
    (rec g.2.2.2.1 h.1.2.2.2.1 x80).bind fun q =>
    some ((Vl.mk 10 0 0 h.1.2.1 ([q.1]) ([]),q.2))
  else
   Zb3 rec n 
def GI (rec:Ty→Ty→Vl→Option (Vl × Bool)) (n:Nat) (a0:Ty) (a1:Ty) (a2:Vl):Nat→Int→(List (ByteArray × Vl))→Option (Vl × Bool)
 | 0,_,_=>none
 | m+1,b,b3_l89_5 =>
  if decide (b<(a1.fields.length:Int)) then
   (B7 a1.fields b).bind fun g =>
   (Gz n a0 g.1).bind fun s =>
   (HY n a2 s.1.2.1).bind fun q =>
   if s.2&&q.2 then
    (rec s.1.2.2.2.1 g.2.2.2.1 q.1).bind fun h =>
    if !h.2 then
     some ((Vl.mk 0 0 0 ((⟨#[]⟩:ByteArray)) ([]) ([]),false))
    else
     (JJ n b3_l89_5 ((g.2.1,h.1))).bind fun y110 =>
     I4 rec n (GI rec n a0 a1 a2 m) b y110
   else
    if decide (g.2.2.1=1) then
     some ((Vl.mk 0 0 0 ((⟨#[]⟩:ByteArray)) ([]) ([]),false))
    else
     if decide (g.2.2.1=3) then
      (B7 g.2.2.2.2 0).bind fun y =>
      (JJ n b3_l89_5 ((g.2.1,y))).bind fun y117 =>
      I4 rec n (GI rec n a0 a1 a2 m) b y117
     else
      I4 rec n (GI rec n a0 a1 a2 m) b b3_l89_5
  else
   V2 rec n b3_l89_5
def V5 (rec:Ty→Ty→Vl→Option (Vl × Bool)) (n:Nat) (g:Ty) (b:Ty) (h:Vl):Option (Vl × Bool) :=
 GI rec n g b h n 0 ([])
def Hj (rec:Ty→Ty→Vl→Option (Vl × Bool)) (n:Nat) (q:Ty) (g:Ty) (h:Vl) (b:Bool):Option (Vl × Bool) :=
 if b then
  some ((h,Bi h.int g))
 else
  if decide (g.kind=8) then
   MM rec n q g h n 0 ([])
  else
   if decide (g.kind=10) then
    M8 rec n q g h n 0
   else
    V5 rec n q g h 
def Zbs (rec:Ty→Ty→Vl→Option (Vl × Bool)) (n:Nat) (h:Ty) (b:Ty) (g:Vl):Option (Vl × Bool) :=
 if (decide (0≤(A3 h)))&&(decide (0≤(A3 b))) then
  if BQ ((A3 b)-(A3 h)) then
   (G9 n g.int ((A3 b)-(A3 h))).bind fun q =>
   some ((Vl.mk b.kind q.1 (A3 b) ((⟨#[]⟩:ByteArray)) ([]) ([]),q.2&&(Bi q.1 b)))
  else none
 else
  if !(decide (h.kind=b.kind)) then
   some ((Vl.mk 0 0 0 ((⟨#[]⟩:ByteArray)) ([]) ([]),false))
  else
   if decide (b.kind=1) then
    some ((g,true))
   else
    if decide (b.kind=4) then
     (O3 n g.text b).bind fun s =>
     some ((g,s))
    else
     if decide (b.kind=5) then
      some ((g,Bi (g.text.size:Int) b))
     else
      if decide (b.kind=6) then
       Hj rec n h b g true
      else
       Hj rec n h b g (decide (b.kind=7))
def Jt:Nat→Ty→Ty→Vl→Option (Vl × Bool)
 | 0,_,_,_=>none
 | n+1,g,b,h=>Zbs (Jt n) n g b h
def VD (g:TF):Option (List (ByteArray × Vl)):=if g.2.2.1=1 then none else if g.2.2.1=3 then some (match g.2.2.2.2 with | x::_=>[(g.2.1,x)] | []=>[]) else some []
def L6 (f:Ty→Ty→Vl→Option Vl) (a:Ty) (v:Vl) (g:TF):Option (List (ByteArray × Vl)) :=
 match E6 a.fields g.1 with
 | some p=>(match CG v p.2.1 with
  | some x=>(f p.2.2.2.1 g.2.2.2.1 x).map fun y=>[(g.2.1,y)]
  | none=>VD g)
 | none=>VD g
def Nh (f:Ty→Ty→Vl→Option Vl) (a:Ty) (v:Vl):List TF→Option (List (ByteArray × Vl))
 | []=>some []
 | g::gs=>(L6 f a v g).bind fun o=>(Nh f a v gs).map fun l=>o++l
def RB (f:Vl→Option Vl):List Vl→Option (List Vl)
 | []=>some []
 | v::r=>(f v).bind fun y=>(RB f r).map fun l=>y::l
def Sr:Nat→Ty→Ty→Vl→Option Vl
 | 0,_,_,_=>none
 | d+1,a,b,v =>
  if (a.kind=2∨a.kind=3)∧(b.kind=2∨b.kind=3) then (NX v.int a.scale b.scale).bind fun m=>if Oc m b=true then some (Vl.mk b.kind m b.scale ⟨#[]⟩ [] []) else none
  else if a.kind≠b.kind then none
  else if b.kind=6∨b.kind=7 then (if Oc v.int b=true then some v else none)
  else if b.kind=5 then (if Oc v.text.size b=true then some v else none)
  else if b.kind=4 then (if JR v.text b=true then some v else none)
  else if b.kind=8 then (match a.elem,b.elem with | [x],[y]=>(RB (Sr d x y) v.list).bind fun l=>if Oc v.list.length b=true then some (Vl.mk 8 0 0 ⟨#[]⟩ l []) else none | _,_=>none)
  else if b.kind=9 then (Nh (Sr d) a v b.fields).map fun l=>Vl.mk 9 0 0 ⟨#[]⟩ [] (B5 l)
  else if b.kind=10 then (match B6 a v.text,v.list with | some p,x::_=>(match E6 b.fields p.1 with | some g=>(Sr d p.2.2.2.1 g.2.2.2.1 x).map fun y=>Vl.mk 10 0 0 g.2.1 [y] [] | none=>none) | _,_=>none)
  else some v
def JE (D:Nat) (o:Option Vl) (r:Vl × Bool):Prop:=(match o with | some y=>r=(y,true) | none=>r.2=false)∧r.1.Nar∧r.1.depth≤D
theorem Oh (k i s:Int) (t:ByteArray) (h:t.size≤1048576):(Vl.mk k i s t [] []).Nar := .mk _ (by simp [Vl.list]) (by simp [Vl.fields]) h (by simp [Vl.list]) (by simp [Vl.fields]) (by simp [Vl.fields])
theorem ZdQ:nilV.Nar:=Oh 0 0 0 _ (by decide)
theorem KW (k i s:Int) (t:ByteArray):(Vl.mk k i s t [] []).depth=1:=by simp [Vl.depth,HT,HC]
theorem Jq {D:Nat} (h:1≤D) {r:Vl × Bool} (e:r=(nilV,false)):JE D none r:=by
 subst e
 exact ⟨rfl,ZdQ,by rw [KW];exact h⟩
theorem PS {D:Nat} {v:Vl} {b:Bool} (h1:v.Nar) (h2:v.depth≤D):JE D (if b=true then some v else none) (v,b):=by
 cases b with
 | true=>exact ⟨rfl,h1,h2⟩
 | false=>exact ⟨rfl,h1,h2⟩
theorem Zdd (n:Nat) (l:List (ByteArray × Vl)) (x:ByteArray × Vl) (hs:SS l) (hi:inN l x.1=false) (hl:l.length≤1000000):∀ (k m at_:Nat),at_≤k→at_≤l.length→(∀ i (h:at_≤i) (h2:i<l.length),¬ ER l[i].1 x.1<0)→k<m→Kw n l x m at_=some (Tq l x.1 x.2)
 | k,0,at_,_,_,_,h=>absurd h (Nat.not_lt_zero _)
 | k,m+1,at_,hk,ha,hb,hm=>by
  have fin:(∀ i (h:i<at_) (h2:i<l.length),ER l[i].1 x.1<0)→Ky n l x at_=some (Tq l x.1 x.2):=fun q=>by
   have e:at_=Rf l x.1:=Wj ha (fun i h=>q i h (by omega)) (fun h=>hb _ (Nat.le_refl _) h)
   rw [Ky,Ae (by omega),Ae (by rw [List.length_take];omega),Ae (by rw [List.length_take];omega),Ae (by omega),Ae (by rw [List.length_take,List.length_drop];omega),Tq,MV,←e,Int.toNat_natCast,List.append_assoc,List.singleton_append]
  rw [Kw]
  by_cases c:0<at_
  ·obtain ⟨j,rfl⟩:∃ j,at_=j+1:=⟨at_-1,by omega⟩
   have b:((j+1:Nat):Int)-1=(j:Int):=by omega
   have a:j<l.length:=by omega
   rw [Ad (show (0:Int)<((j+1:Nat):Int) by omega),Ae rfl,b,Ae (by unfold BQ;omega),Az a,Ab,ZaV]
   have ne:Cb l[j].1 x.1=false:=by
    cases q:Cb l[j].1 x.1 with
    | false=>rfl
    | true=>rw [O4.2 ⟨_,List.getElem_mem a,(Ei _ _).1 q⟩] at hi;cases hi
   rw [ne,Bool.or_false]
   by_cases d:ER l[j].1 x.1<0
   ·rw [Ad d,Af (by decide)]
    refine fin fun i h h2=>?_
    rcases Nat.lt_or_ge i j with z | z
    ·exact Qr (List.pairwise_iff_getElem.1 hs i j h2 a z) d
    ·obtain rfl:i=j:=by omega
     exact d
   ·obtain ⟨k,rfl⟩:∃ q,k=q+1:=⟨k-1,by omega⟩
    rw [Ac d,Ae (by rfl),Ae (by unfold BQ;omega)]
    refine Zdd n l x hs hi hl k m j (by omega) (by omega) (fun i h h2=>?_) (by omega)
    rcases Nat.lt_or_ge j i with z | z
    ·exact hb i (by omega) h2
    ·obtain rfl:i=j:=by omega
     exact d
  ·obtain rfl:at_=0:=by omega
   rw [Ac (by decide),Af (by decide)]
   exact fin fun i h=>absurd h (by omega)
theorem Zck (n:Nat) (l:List (ByteArray × Vl)) (x:ByteArray × Vl) (hs:SS l) (hi:inN l x.1=false) (hl:l.length≤1000000) (hn:l.length<n):JJ n l x=some (Tq l x.1 x.2) :=
 Zdd n l x hs hi hl l.length n l.length (Nat.le_refl _) (Nat.le_refl _) (fun i h a=>by omega) hn
theorem Zc9 (rec:Ty→Ty→Vl→Option (Vl × Bool)) (n D:Nat) (a b x y:Ty) (v:Vl) (f:Vl→Option Vl) (ha:a.elem=[x]) (hb:b.elem=[y]) (hD:1≤D) (hl:v.list.length≤100000000)
  (hr:∀ u∈v.list,∃ r,rec x y u=some r∧JE D (f u) r):∀ (k m i:Nat) (acc:List Vl),i+k=v.list.length→k<m→acc.length=i→(∀ u∈acc,u.Nar∧u.depth≤D) →
  ∃ r,Dp rec n a b v m i acc=some r∧JE (D+1) ((RB f (v.list.drop i)).bind fun l=>if Oc v.list.length b=true then some (Vl.mk 8 0 0 ⟨#[]⟩ (acc++l) []) else none) r
 | k,0,i,acc,_,h,_,_=>absurd h (Nat.not_lt_zero _)
 | 0,m+1,i,acc,hi,_,h1,h2=>by
  rw [Dp,As,Ac (by omega),Af (by decide),Gq,List.drop_eq_nil_of_le (by omega),RB,Ab,List.append_nil,Bj]
  exact ⟨_,rfl,PS (.mk _ (by simp only [Vl.list];omega) (by simp [Vl.fields]) (by show (⟨#[]⟩:ByteArray).size≤1048576;decide) (fun u hu=>(h2 u hu).1) (by simp [Vl.fields]) (by simp [Vl.fields])) (by
   have:=(Ia acc D).2 fun u hu=>(h2 u hu).2
   simp only [Vl.depth,HC];omega)⟩
 | k+1,m+1,i,acc,hi,hm,h1,h2=>by
  have c:i<v.list.length:=by omega
  obtain ⟨r,e,⟨u1,u2,u3⟩⟩:=hr _ (List.getElem_mem c)
  rw [Dp,As,Ad c,Ae rfl,Az c,Ab,ha,hb,show B7 [x] 0=some x from rfl,Ab,show B7 [y] 0=some y from rfl,Ab,e,Ab,List.drop_eq_getElem_cons c,RB]
  cases q:f v.list[i] with
  | none =>
   rw [q] at u1
   simp only at u1
   rw [u1,Ae (by rfl),Option.bind_none,Option.bind_none]
   exact ⟨_,rfl,Jq (by omega) rfl⟩
  | some z =>
   rw [q] at u1
   simp only at u1
   subst u1
   rw [Af (by simp),Ae (by omega),Ae (Av (by omega))]
   obtain ⟨r,e,u⟩:=Zc9 rec n D a b x y v f ha hb hD hl hr k m (i+1) (acc++[z]) (by omega) (by omega) (by simp;omega) (fun u hu=>by
    rcases List.mem_append.1 hu with hu | hu
    ·exact h2 u hu
    ·rw [List.mem_singleton] at hu;subst hu;exact ⟨u2,u3⟩)
   refine ⟨r,e,?_⟩
   rw [Ab]
   simp only [List.append_assoc,List.singleton_append] at u
   cases w:RB f (v.list.drop (i+1)) with
   | none=>rw [w] at u;exact u
   | some l=>rw [w] at u;exact u
theorem ZaX (rec:Ty→Ty→Vl→Option (Vl × Bool)) (n D:Nat) (a b x y:Ty) (v:Vl) (f:Vl→Option Vl) (ha:a.elem=[x]) (hb:b.elem=[y]) (hD:1≤D) (hl:v.list.length≤100000000)
  (hr:∀ u∈v.list,∃ r,rec x y u=some r∧JE D (f u) r):∀ (k m i:Nat) (acc:List Vl),i+k=v.list.length→k<m→acc.length=i→(∀ u∈acc,u.Nar∧u.depth≤D) →
  ∃ r,MM rec n a b v m i acc=some r∧JE (D+1) ((RB f (v.list.drop i)).bind fun l=>if Oc v.list.length b=true then some (Vl.mk 8 0 0 ⟨#[]⟩ (acc++l) []) else none) r
 | k,0,i,acc,_,h,_,_=>absurd h (Nat.not_lt_zero _)
 | 0,m+1,i,acc,hi,_,h1,h2=>by
  rw [MM,As,Ac (by omega),Af (by decide),Wy,List.drop_eq_nil_of_le (by omega),RB,Ab,List.append_nil,Bi]
  exact ⟨_,rfl,PS (.mk _ (by simp only [Vl.list];omega) (by simp [Vl.fields]) (by show (⟨#[]⟩:ByteArray).size≤1048576;decide) (fun u hu=>(h2 u hu).1) (by simp [Vl.fields]) (by simp [Vl.fields])) (by
   have:=(Ia acc D).2 fun u hu=>(h2 u hu).2
   simp only [Vl.depth,HC];omega)⟩
 | k+1,m+1,i,acc,hi,hm,h1,h2=>by
  have c:i<v.list.length:=by omega
  obtain ⟨r,e,⟨u1,u2,u3⟩⟩:=hr _ (List.getElem_mem c)
  rw [MM,As,Ad c,Ae rfl,ha,hb,show B7 [x] 0=some x from rfl,Ab,show B7 [y] 0=some y from rfl,Ab,Az c,Ab,e,Ab,List.drop_eq_getElem_cons c,RB]
  cases q:f v.list[i] with
  | none =>
   rw [q] at u1
   simp only at u1
   rw [u1,Ae (by rfl),Option.bind_none,Option.bind_none]
   exact ⟨_,rfl,Jq (by omega) rfl⟩
  | some z =>
   rw [q] at u1
   simp only at u1
   subst u1
   rw [Af (by simp),Ae (by omega),Ae (Av (by omega))]
   obtain ⟨r,e,u⟩:=ZaX rec n D a b x y v f ha hb hD hl hr k m (i+1) (acc++[z]) (by omega) (by omega) (by simp;omega) (fun u hu=>by
    rcases List.mem_append.1 hu with hu | hu
    ·exact h2 u hu
    ·rw [List.mem_singleton] at hu;subst hu;exact ⟨u2,u3⟩)
   refine ⟨r,e,?_⟩
   rw [Ab]
   simp only [List.append_assoc,List.singleton_append] at u
   cases w:RB f (v.list.drop (i+1)) with
   | none=>rw [w] at u;exact u
   | some l=>rw [w] at u;exact u
theorem Zj (n D:Nat) (l:List (ByteArray × Vl)) (hl:l.length≤1000000) (hn:D+1000000001<n) (hnul:∀ p∈l,Ce p.2=false) (hd:(l.map Prod.fst).Nodup) (hv:(Vl.mk 9 0 0 ⟨#[]⟩ [] (B5 l)).Nar) (hdp:(Vl.mk 9 0 0 ⟨#[]⟩ [] (B5 l)).depth≤D+1):KY n l=some (Vl.mk 9 0 0 ⟨#[]⟩ [] (B5 l)):=by
 have e:=Zbm n l hl (by omega) hnul hd l.length n 0 (by omega) (by omega)
 rw [List.take_zero] at e
 have a:Ey n l n 0 []=_:=e
 rw [KY,a,JQ,Ae (by omega),GK n _ hv (by omega)]
 rfl
structure Acc (D:Nat) (b:Ty) (i:Nat) (acc:List (ByteArray × Vl)):Prop where
 len:acc.length≤i
 each:∀ p∈acc,p.1.size≤1048576∧p.2.Nar∧p.2.depth≤D∧p.2.kind≠0
 apart:(acc.map Prod.fst++(b.fields.drop i).map fun p=>p.2.1).Nodup
theorem Acc.skip {D:Nat} {b:Ty} {i:Nat} {acc:List (ByteArray × Vl)} (h:Acc D b i acc) (hi:i<b.fields.length):Acc D b (i+1) acc :=
 ⟨Nat.le_succ_of_le h.len,h.each,by
  have:=h.apart
  rw [List.drop_eq_getElem_cons hi,List.map_cons] at this
  exact this.sublist ((List.sublist_cons_self _ _).append_left _)⟩
theorem Acc.push {D:Nat} {b:Ty} {i:Nat} {acc:List (ByteArray × Vl)} (h:Acc D b i acc) (hi:i<b.fields.length) {y:Vl} (hs:b.fields[i].2.1.size≤1048576) (h1:y.Nar) (h2:y.depth≤D) (h3:y.kind≠0):Acc D b (i+1) (acc++[(b.fields[i].2.1,y)]) :=
 ⟨by rw [List.length_append];have:=h.len;simp;omega,fun p hp=>by
  rcases List.mem_append.1 hp with hp | hp
  ·exact h.each p hp
  ·rw [List.mem_singleton] at hp;subst hp;exact ⟨hs,h1,h2,h3⟩,by
  have:=h.apart
  rw [List.drop_eq_getElem_cons hi,List.map_cons] at this
  rw [List.map_append,List.map_singleton,List.append_assoc,List.singleton_append]
  exact this⟩
theorem Acc.names {D:Nat} {b:Ty} {i:Nat} {acc:List (ByteArray × Vl)} (h:Acc D b i acc):(acc.map Prod.fst).Nodup:=h.apart.sublist (List.sublist_append_left _ _)
theorem Acc.new {D:Nat} {b:Ty} {i:Nat} {acc:List (ByteArray × Vl)} (h:Acc D b i acc) (hi:i<b.fields.length):inN (B5 acc) b.fields[i].2.1=false:=by
 cases q:inN (B5 acc) b.fields[i].2.1 with
 | false=>rfl
 | true =>
  obtain ⟨p,a,e⟩:=O4.1 q
  have:=h.apart
  rw [List.drop_eq_getElem_cons hi,List.map_cons] at this
  have:=(List.nodup_append.1 this).2.2 p.1 (List.mem_map.2 ⟨p,(HZ acc).mem_iff.1 a,rfl⟩) b.fields[i].2.1 (List.mem_cons_self ..)
  exact absurd e this
theorem Acc.sort {D:Nat} {b:Ty} {i:Nat} {acc:List (ByteArray × Vl)} (h:Acc D b i acc) (hi:i<b.fields.length) (y:Vl):Tq (B5 acc) b.fields[i].2.1 y=B5 (acc++[(b.fields[i].2.1,y)]):=by
 refine Py _ _ ?_ (Za9 (OH acc h.names) (h.new hi) y) (OH _ ?_)
 ·refine ((Rk _ _ _).trans ?_).trans (HZ _).symm
  refine ((HZ acc).cons _).trans ?_
  exact (List.perm_append_singleton _ _).symm
 ·have:=h.apart
  rw [List.drop_eq_getElem_cons hi,List.map_cons] at this
  rw [List.map_append,List.map_singleton]
  exact this.sublist (List.Sublist.append_left (List.singleton_sublist.2 (List.mem_cons_self ..)) _)
theorem Acc.ok {D:Nat} {b:Ty} {i:Nat} {acc:List (ByteArray × Vl)} (h:Acc D b i acc) (hi:i≤100000000):(Vl.mk 9 0 0 ⟨#[]⟩ [] (B5 acc)).Nar∧(Vl.mk 9 0 0 ⟨#[]⟩ [] (B5 acc)).depth≤D+1:=by
 have c:∀ p∈B5 acc,_:=fun p a=>h.each p ((HZ acc).mem_iff.1 a)
 refine ⟨.mk _ (by simp [Vl.list]) (by show (B5 acc).length≤_;rw [Gt];have:=h.len;omega) (by show (⟨#[]⟩:ByteArray).size≤1048576;decide) (by simp [Vl.list]) (fun p a=>(c p a).1) (fun p a=>(c p a).2.1),?_⟩
 have:=(Jg (B5 acc) D).2 fun p a=>(c p a).2.2.1
 simp only [Vl.depth,HT];omega
theorem YR {v:Vl} (h:v.kind≠0):Ce v=false:=by rw [Ce,Ac h];simp
theorem Jp {o:Option (List (ByteArray × Vl))} {acc:List (ByteArray × Vl)} {x:ByteArray × Vl}:(o.map fun l=>Vl.mk 9 0 0 ⟨#[]⟩ [] (B5 ((acc++[x])++l)))=(o.map fun l=>[x]++l).map fun l=>Vl.mk 9 0 0 ⟨#[]⟩ [] (B5 (acc++l)):=by
 cases o with
 | none=>rfl
 | some l=>simp only [Option.map_some,List.append_assoc]
theorem QO {o:Option (List (ByteArray × Vl))}:(o.map fun l=>[]++l)=o:=by cases o<;>rfl
structure RecH (rec:Ty→Ty→Vl→Option (Vl × Bool)) (n D:Nat) (a b:Ty) (v:Vl) (f:Ty→Ty→Vl→Option Vl):Prop where
 vk:v.kind=9
 vl:v.fields.length≤100000000
 al:a.fields.length≤1000000
 bl:b.fields.length≤1000000
 nn:D+2000000000<n
 hD:1≤D
 hc:∀ q∈v.fields,Bn n q.2=some q.2
 bn:∀ g∈b.fields,g.2.1.size≤1048576
 hr:∀ g∈b.fields,∀ p,E6 a.fields g.1=some p→∀ x,CG v p.2.1=some x→∃ r,rec p.2.2.2.1 g.2.2.2.1 x=some r∧JE D (f p.2.2.2.1 g.2.2.2.1 x) r∧∀ y,f p.2.2.2.1 g.2.2.2.1 x=some y→y.kind≠0
 hd:∀ g∈b.fields,g.2.2.1=3→∃ x,g.2.2.2.2=[x]∧x.Nar∧x.depth≤D∧x.kind≠0
theorem Zg0 {rec:Ty→Ty→Vl→Option (Vl × Bool)} {n D:Nat} {a b:Ty} {v:Vl} {f:Ty→Ty→Vl→Option Vl} (H:RecH rec n D a b v f):∀ (k m i:Nat) (acc:List (ByteArray × Vl)),i+k=b.fields.length→k<m→Acc D b i acc →
  ∃ r,AG rec n a b v m acc i=some r∧JE (D+1) ((Nh f a v (b.fields.drop i)).map fun l=>Vl.mk 9 0 0 ⟨#[]⟩ [] (B5 (acc++l))) r
 | k,0,i,acc,_,h,_=>absurd h (Nat.not_lt_zero _)
 | 0,m+1,i,acc,hi,_,ha=>by
  have C:=H.bl
  have J:=H.nn
  have K:=ha.len
  obtain ⟨z,w⟩:=ha.ok (by omega)
  rw [AG,As,Ac (by omega),Af (by decide),Ej,Zj n D acc (by omega) (by omega) (fun p hp=>YR (ha.each p hp).2.2.2) ha.names z w,List.drop_eq_nil_of_le (by omega),Nh,Option.map_some,List.append_nil]
  exact ⟨_,rfl,rfl,z,w⟩
 | k+1,m+1,i,acc,hi,hm,ha=>by
  have d:i<b.fields.length:=by omega
  have g:=List.getElem_mem d
  have C:=H.bl
  have F:=H.al
  have J:=H.nn
  have O:=H.vl
  have K:=ha.len
  have t:∀ c,Acc D b (i+1) c→∃ r,A6 rec n (AG rec n a b v m) i c=some r∧JE (D+1) ((Nh f a v (b.fields.drop (i+1))).map fun l=>Vl.mk 9 0 0 ⟨#[]⟩ [] (B5 (c++l))) r:=fun c h=>by
   obtain ⟨r,e,u⟩:=Zg0 H k m (i+1) c (by omega) (by omega) h
   rw [A6,Ae (Av (by omega))]
   exact ⟨r,e,u⟩
  rw [AG,As,Ad d,Ae rfl,Az d,Ab,Q3 n a.fields _ (by omega) (by omega),Ab,Ym n v _ H.vk (by omega) (by omega) H.hc,Ab,List.drop_eq_getElem_cons d,Nh]
  have j:L6 f a v b.fields[i]=VD b.fields[i]→∃ r,(if decide (b.fields[i].2.2.1=1)=true then some (Vl.mk 0 0 0 ⟨#[]⟩ [] [],false) else if decide (b.fields[i].2.2.1=3)=true then (B7 b.fields[i].2.2.2.2 0).bind fun s=>if (acc.length+1)*104≤140737488355328∧acc.length+1≤4611686018427387904 then A6 rec n (AG rec n a b v m) i (acc++[(b.fields[i].2.1,s)]) else none else A6 rec n (AG rec n a b v m) i acc)=some r∧JE (D+1) (((L6 f a v b.fields[i]).bind fun o=>(Nh f a v (b.fields.drop (i+1))).map fun l=>o++l).map fun l=>Vl.mk 9 0 0 ⟨#[]⟩ [] (B5 (acc++l))) r:=fun q=>by
   rw [q,VD]
   by_cases c1:b.fields[i].2.2.1=1
   ·rw [Ad c1,Ae rfl,Ae c1]
    exact ⟨_,rfl,Jq (by omega) rfl⟩
   rw [Ac c1,Af (by decide),Af c1]
   by_cases c3:b.fields[i].2.2.1=3
   ·obtain ⟨x,hx,E,V,N⟩:=H.hd _ g c3
    rw [Ad c3,Ae rfl,Ae c3,hx,show B7 [x] 0=some x from rfl,Ab,Ae (by omega)]
    obtain ⟨r,e,u⟩:=t _ (ha.push d (H.bn _ g) E V N)
    rw [Jp] at u
    exact ⟨r,e,u⟩
   ·rw [Ac c3,Af (by decide),Af c3]
    obtain ⟨r,e,u⟩:=t _ (ha.skip d)
    refine ⟨r,e,?_⟩
    rw [Ab,QO]
    exact u
  cases hp:E6 a.fields b.fields[i].1 with
  | none =>
   rw [Af (by simp)]
   exact j (by rw [L6,hp])
  | some p =>
   simp only [Option.getD_some,Option.isSome_some,Bool.true_and]
   cases hx:CG v p.2.1 with
   | none =>
    rw [Af (by simp)]
    exact j (by rw [L6,hp];simp only [hx])
   | some x =>
    obtain ⟨r,e,⟨u1,Q,G⟩,U⟩:=H.hr _ g p hp x hx
    have ef:L6 f a v b.fields[i]=(f p.2.2.2.1 b.fields[i].2.2.2.1 x).map fun y=>[(b.fields[i].2.1,y)]:=by rw [L6,hp];simp only [hx]
    rw [Ae Option.isSome_some,Option.getD_some,e,Ab,ef]
    cases q:f p.2.2.2.1 b.fields[i].2.2.2.1 x with
    | none =>
     rw [q] at u1
     simp only at u1
     rw [u1,Ae (by rfl)]
     exact ⟨_,rfl,Jq (by omega) rfl⟩
    | some y =>
     rw [q] at u1
     simp only at u1
     subst u1
     rw [Af (by simp),Ae (by omega)]
     obtain ⟨r,e,u⟩:=t _ (ha.push d (H.bn _ g) Q G (U y q))
     rw [Jp] at u
     exact ⟨r,e,u⟩
theorem Za2 {rec:Ty→Ty→Vl→Option (Vl × Bool)} {n D:Nat} {a b:Ty} {v:Vl} {f:Ty→Ty→Vl→Option Vl} (H:RecH rec n D a b v f):∀ (k m i:Nat) (acc:List (ByteArray × Vl)),i+k=b.fields.length→k<m→Acc D b i acc →
  ∃ r,GI rec n a b v m i (B5 acc)=some r∧JE (D+1) ((Nh f a v (b.fields.drop i)).map fun l=>Vl.mk 9 0 0 ⟨#[]⟩ [] (B5 (acc++l))) r
 | k,0,i,acc,_,h,_=>absurd h (Nat.not_lt_zero _)
 | 0,m+1,i,acc,hi,_,ha=>by
  have C:=H.bl
  obtain ⟨K,J⟩:=ha.ok (by omega)
  rw [GI,As,Ac (by omega),Af (by decide),V2,List.drop_eq_nil_of_le (by omega),Nh,Option.map_some,List.append_nil]
  exact ⟨_,rfl,rfl,K,J⟩
 | k+1,m+1,i,acc,hi,hm,ha=>by
  have c:i<b.fields.length:=by omega
  have g:=List.getElem_mem c
  have C:=H.bl
  have F:=H.al
  have Y:=H.nn
  have O:=H.vl
  have Z:=ha.len
  have s:∀ y,JJ n (B5 acc) (b.fields[i].2.1,y)=some (B5 (acc++[(b.fields[i].2.1,y)])):=fun y=>by
   rw [Zck n (B5 acc) (b.fields[i].2.1,y) (OH acc ha.names) (ha.new c) (by rw [Gt];omega) (by rw [Gt];omega),ha.sort c y]
  have z:∀ d,Acc D b (i+1) d→∃ r,I4 rec n (GI rec n a b v m) i (B5 d)=some r∧JE (D+1) ((Nh f a v (b.fields.drop (i+1))).map fun l=>Vl.mk 9 0 0 ⟨#[]⟩ [] (B5 (d++l))) r:=fun d h=>by
   obtain ⟨r,e,u⟩:=Za2 H k m (i+1) d (by omega) (by omega) h
   rw [I4,Ae (Av (by omega))]
   exact ⟨r,e,u⟩
  rw [GI,As,Ad c,Ae rfl,Az c,Ab,JF n a _ (by omega) (by omega),Ab,SA n v _ (by omega) (by omega),Ab,List.drop_eq_getElem_cons c,Nh]
  have j:L6 f a v b.fields[i]=VD b.fields[i]→∃ r,(if decide (b.fields[i].2.2.1=1)=true then some (Vl.mk 0 0 0 ⟨#[]⟩ [] [],false) else if decide (b.fields[i].2.2.1=3)=true then (B7 b.fields[i].2.2.2.2 0).bind fun w=>(JJ n (B5 acc) (b.fields[i].2.1,w)).bind fun t=>I4 rec n (GI rec n a b v m) i t else I4 rec n (GI rec n a b v m) i (B5 acc))=some r∧JE (D+1) (((L6 f a v b.fields[i]).bind fun o=>(Nh f a v (b.fields.drop (i+1))).map fun l=>o++l).map fun l=>Vl.mk 9 0 0 ⟨#[]⟩ [] (B5 (acc++l))) r:=fun q=>by
   rw [q,VD]
   by_cases c1:b.fields[i].2.2.1=1
   ·rw [Ad c1,Ae rfl,Ae c1]
    exact ⟨_,rfl,Jq (by omega) rfl⟩
   rw [Ac c1,Af (by decide),Af c1]
   by_cases c3:b.fields[i].2.2.1=3
   ·obtain ⟨x,hx,E,V,N⟩:=H.hd _ g c3
    rw [Ad c3,Ae rfl,Ae c3,hx,show B7 [x] 0=some x from rfl,Ab,s,Ab]
    obtain ⟨r,e,u⟩:=z _ (ha.push c (H.bn _ g) E V N)
    rw [Jp] at u
    exact ⟨r,e,u⟩
   ·rw [Ac c3,Af (by decide),Af c3]
    obtain ⟨r,e,u⟩:=z _ (ha.skip c)
    refine ⟨r,e,?_⟩
    rw [Ab,QO]
    exact u
  cases hp:E6 a.fields b.fields[i].1 with
  | none =>
   rw [Af (by simp)]
   exact j (by rw [L6,hp])
  | some p =>
   simp only [Option.getD_some,Option.isSome_some,Bool.true_and]
   cases hx:CG v p.2.1 with
   | none =>
    rw [Af (by simp)]
    exact j (by rw [L6,hp];simp only [hx])
   | some x =>
    obtain ⟨r,e,⟨u1,Q,G⟩,U⟩:=H.hr _ g p hp x hx
    have ef:L6 f a v b.fields[i]=(f p.2.2.2.1 b.fields[i].2.2.2.1 x).map fun y=>[(b.fields[i].2.1,y)]:=by rw [L6,hp];simp only [hx]
    rw [Ae Option.isSome_some,Option.getD_some,e,Ab,ef]
    cases q:f p.2.2.2.1 b.fields[i].2.2.2.1 x with
    | none =>
     rw [q] at u1
     simp only at u1
     rw [u1,Ae (by rfl)]
     exact ⟨_,rfl,Jq (by omega) rfl⟩
    | some y =>
     rw [q] at u1
     simp only at u1
     subst u1
     rw [Af (by simp),s,Ab]
     obtain ⟨r,e,u⟩:=z _ (ha.push c (H.bn _ g) Q G (U y q))
     rw [Jp] at u
     exact ⟨r,e,u⟩
theorem Zdm:∀ (d:Nat) (a b:Ty) (v y:Vl),1≤b.kind→v.kind≠0→Sr d a b v=some y→y.kind≠0
 | 0,a,b,v,y,_,_,h=>by simp [Sr] at h
 | d+1,a,b,v,y,hb,hv,h=>by
  rw [Sr] at h
  split at h
  ·obtain ⟨m,_,h⟩:=Option.bind_eq_some_iff.1 h
   split at h
   ·cases h;show b.kind≠0;omega
   ·cases h
  split at h
  ·cases h
  split at h
  ·split at h
   ·cases h;exact hv
   ·cases h
  split at h
  ·split at h
   ·cases h;exact hv
   ·cases h
  split at h
  ·split at h
   ·cases h;exact hv
   ·cases h
  split at h
  ·split at h
   ·obtain ⟨m,_,h⟩:=Option.bind_eq_some_iff.1 h
    split at h
    ·cases h;simp [Vl.kind]
    ·cases h
   ·cases h
  split at h
  ·obtain ⟨m,_,h⟩:=Option.map_eq_some_iff.1 h
   cases h;simp [Vl.kind]
  split at h
  ·split at h
   ·split at h
    ·obtain ⟨m,_,h⟩:=Option.map_eq_some_iff.1 h
     cases h;simp [Vl.kind]
    ·cases h
   ·cases h
  ·cases h;exact hv
theorem O0:∀ {d:Nat} {t:Ty} {v:Vl},IE d t v=true→v.kind=t.kind∧1≤t.kind∧t.kind≤10∧DI v=true
 | 0,t,v,h=>by simp [IE] at h
 | d+1,t,v,h=>by
  rw [IE] at h
  by_cases c:(t.kind<1∨10<t.kind)∨v.kind≠t.kind∨DI v=false
  ·rw [Ae c] at h;cases h
  ·have q:v.kind=t.kind:=by
    by_cases q:v.kind=t.kind
    ·exact q
    ·exact absurd (.inr (.inl q)) c
   have w:DI v=true:=by
    cases w:DI v with
    | true=>rfl
    | false=>exact absurd (.inr (.inr w)) c
   have z:¬ (t.kind<1∨10<t.kind):=fun z=>c (.inl z)
   exact ⟨q,by omega,by omega,w⟩
theorem Pn {t:Ty} (h:0≤A3 t):t.kind=2∨t.kind=3:=by
 rw [A3] at h
 by_cases a:t.kind=2
 ·exact .inl a
 rw [Ac a,Af (by decide)] at h
 by_cases b:t.kind=3
 ·exact .inr b
 rw [Ac b,Af (by decide)] at h
 omega
theorem QX {t:Ty} (o:t.Own) (h:t.kind=2∨t.kind=3):A3 t=t.scale:=by
 rw [A3]
 by_cases a:t.kind=2
 ·rw [Ad a,Ae rfl,o.noscale (by omega)]
 ·rw [Ac a,Af (by decide),Ad (by omega),Ae rfl]
theorem Tz {t:Ty} (o:t.Own) (h:t.kind=2∨t.kind=3) : -999999999999999≤t.min∧t.max≤999999999999999:=by
 obtain ⟨a,b,_⟩:=o.bounds (by omega) (by omega)
 have e:AL t.kind=(-999999999999999,999999999999999):=by rcases h with h | h<;>rw [h]<;>decide
 rw [e] at a b
 exact ⟨a,b⟩
theorem XM {n:Int} {t:Ty}:Oc n t=true↔t.min≤n∧n≤t.max:=by rw [Oc,Bool.and_eq_true,decide_eq_true_eq,decide_eq_true_eq]
theorem Zig (n D:Nat) (a b:Ty) (x:Int) (oa:a.Own) (ob:b.Own) (hD:1≤D) (hn:200<n) (ha:a.kind=2∨a.kind=3) (hb:b.kind=2∨b.kind=3) (hx:Oc x a=true) :
  ∃ r1 r2,((Dx n x a.scale b.scale).bind fun y17=>some (Vl.mk b.kind y17.1 b.scale ⟨#[]⟩ [] [],y17.2&&Bj y17.1 b))=some r1∧((G9 n x (b.scale-a.scale)).bind fun y7=>some (Vl.mk b.kind y7.1 b.scale ⟨#[]⟩ [] [],y7.2&&Bi y7.1 b))=some r2 ∧
   JE D ((NX x a.scale b.scale).bind fun m=>if Oc m b=true then some (Vl.mk b.kind m b.scale ⟨#[]⟩ [] []) else none) r1∧JE D ((NX x a.scale b.scale).bind fun m=>if Oc m b=true then some (Vl.mk b.kind m b.scale ⟨#[]⟩ [] []) else none) r2:=by
 have f:=Tz oa ha
 have i:=Tz ob hb
 have d:=oa.scale
 have g:=ob.scale
 have hx:=XM.1 hx
 have z:(⟨#[]⟩:ByteArray).size≤1048576:=by decide
 obtain ⟨y,c,hsh⟩:=UO n x a.scale b.scale (by omega) (by omega) (by omega) hn
 rw [PU n x a.scale b.scale (by omega) (by omega) (by omega) hn,Ab,c,Ab]
 refine ⟨_,_,rfl,rfl,?_⟩
 cases q:NX x a.scale b.scale with
 | none =>
  rw [q] at hsh
  have e:(y.2&&Bi y.1 b)=false:=by
   rcases hsh with h | ⟨h,h2⟩
   ·rw [h];rfl
   ·rw [h,Bool.true_and,Bool.eq_false_iff]
    intro w
    have:Oc y.1 b=true:=w
    rw [XM] at this
    omega
  exact ⟨⟨rfl,Oh _ _ _ _ z,by rw [KW];exact hD⟩,⟨e,Oh _ _ _ _ z,by rw [KW];exact hD⟩⟩
 | some m =>
  rw [q] at hsh
  have hsh:y=(m,true):=hsh
  subst hsh
  refine ⟨?_,?_⟩
  ·exact PS (Oh _ _ _ _ z) (by rw [KW];exact hD)
  ·exact PS (Oh _ _ _ _ z) (by rw [KW];exact hD)
theorem Ti (q:TF→Bool) (w:ByteArray):∀ l:List TF,(l.map fun p=>p.2.1).Nodup→l.find? (fun p=>Cb p.2.1 w&&q p)=match l.find? (fun p=>Cb p.2.1 w) with | none=>none | some p=>if q p=true then some p else none
 | [],_=>rfl
 | p::r,h=>by
  rw [List.map_cons,List.nodup_cons] at h
  rw [List.find?_cons,List.find?_cons]
  cases c:Cb p.2.1 w with
  | false=>rw [Bool.false_and];exact Ti q w r h.2
  | true =>
   rw [Bool.true_and]
   cases z:q p with
   | true=>simp [z]
   | false =>
    simp only [z,Bool.false_eq_true,if_false]
    rw [List.find?_eq_none]
    intro x b a
    rw [Bool.and_eq_true,Ei] at a
    exact h.1 (List.mem_map.2 ⟨x,b,by rw [a.1,(Ei _ _).1 c]⟩)
theorem Za7 (rec:Ty→Ty→Vl→Option (Vl × Bool)) (n:Nat) (a b:Ty) (v:Vl) (ha:a.fields.length≤1000000000) (hb:b.fields.length≤1000000000) (hn:b.fields.length<n):∀ (k m i:Nat),i+k=a.fields.length→k<m →
  M8 rec n a b v m i=match (a.fields.drop i).find? (fun p=>Cb p.2.1 v.text&&(E6 b.fields p.1).isSome) with
   | none=>some (nilV,false)
   | some p=>(B7 v.list 0).bind fun x=>(rec p.2.2.2.1 ((E6 b.fields p.1).getD Nz).2.2.2.1 x).bind fun y=>some (Vl.mk 10 0 0 ((E6 b.fields p.1).getD Nz).2.1 [y.1] [],y.2)
 | k,0,i,_,h=>absurd h (Nat.not_lt_zero _)
 | 0,m+1,i,hi,_=>by
  rw [M8,As,Ac (by omega),Af (by decide),List.drop_eq_nil_of_le (by omega)];rfl
 | k+1,m+1,i,hi,hm=>by
  have d:i<a.fields.length:=by omega
  rw [M8,As,Ad d,Ae rfl,Az d,Ab,JF n b _ hb hn,Ab,List.drop_eq_getElem_cons d,List.find?_cons]
  cases c:Cb a.fields[i].2.1 v.text&&(E6 b.fields a.fields[i].1).isSome with
  | true =>
   rw [Af (by rw [←Bool.not_and,c];decide)]
  | false =>
   rw [Ae (by rw [←Bool.not_and,c];rfl),Ae (Av (by omega))]
   exact Za7 rec n a b v ha hb hn k m (i+1) (by omega) (by omega)
theorem MD {a b:Int} (h:a=b∨((a=2∨a=3)∧(b=2∨b=3))):Dy a b=true:=by
 simp only [Dy,DX,Bool.or_eq_true,Bool.and_eq_true,decide_eq_true_eq]
 exact h
theorem TT {a b:Int} (h:¬ a=b) (h2:¬ ((a=2∨a=3)∧(b=2∨b=3))):Dy a b=false:=by
 rw [Bool.eq_false_iff]
 intro q
 simp only [Dy,DX,Bool.or_eq_true,Bool.and_eq_true,decide_eq_true_eq] at q
 exact q.elim h h2
theorem Kv {D:Nat} {o:Option Vl} {A B:Option (Vl × Bool)} {r1 r2:Vl × Bool} (h1:A=some r1) (h2:B=some r2) (h3:JE D o r1) (h4:JE D o r2):∃ r1 r2,A=some r1∧B=some r2∧JE D o r1∧JE D o r2:=⟨r1,r2,h1,h2,h3,h4⟩
theorem Zl:∀ (d n K e:Nat) (a b:Ty) (v:Vl),a.small→b.small→a.Good→b.Fine e→v.Nar→v.depth≤K→IE d a v=true→K+3100000000+d<n →
  ∃ r1 r2,AH n a b v=some r1∧Jt n a b v=some r2∧JE (K+1048576) (Sr d a b v) r1∧JE (K+1048576) (Sr d a b v) r2
 | 0,n,K,e,a,b,v,_,_,_,_,_,_,h,_=>by simp [IE] at h
 | d+1,0,K,e,a,b,v,_,_,_,_,_,_,_,h=>absurd h (by omega)
 | d+1,n+1,K,0,a,b,v,_,_,_,h,_,_,_,_=>by cases h
 | d+1,n+1,0,e+1,a,b,v,_,_,_,_,_,h,_,_=>by have:=v.depth_eq;omega
 | d+1,n+1,K+1,e+1,a,b,v,sa,sb,ga,fb,hv,hvd,i,hn=>by
  have Z:=ga.own
  have H:=fb.good.own
  have la:=a.lens
  have lb:=b.lens
  have ai:=sa.1
  have aj:=sb.1
  obtain ⟨v1,v2,v3,v4,v5⟩:=hv.inv
  obtain ⟨hk,_,_,ae⟩:=O0 i
  have c0:¬ ((a.kind<1∨10<a.kind)∨v.kind≠a.kind∨DI v=false):=by
   rintro (q | q | q)
   ·omega
   ·exact q hk
   ·rw [ae] at q;cases q
  rw [IE,Af c0] at i
  rw [AH,FQ,Jt,Zbs,Sr]
  by_cases num:(a.kind=2∨a.kind=3)∧(b.kind=2∨b.kind=3)
  ·have f:Oc v.int a=true:=by
    rcases num.1 with q | q
    ·rwa [Ae (.inl q)] at i
    ·rw [Af (by omega),Ae q,Bool.and_eq_true] at i
     exact i.2
   have G:(if decide (b.kind=2)=true then BJ (AH n) n a b v true else BJ (AH n) n a b v (decide (b.kind=3)))=BJ (AH n) n a b v true:=by
    rcases num.2 with q | q
    ·rw [Ad q,Ae rfl]
    ·rw [Ad q];exact ite_self _
   have s1:=Z.scale
   have s2:=H.scale
   rw [Ae num,MD (.inr num),Af (by decide),G,BJ,Ae rfl,QX Z num.1,QX H num.2,Ad s1.1,Ad s2.1,Ae (by rfl),Ae (by unfold BQ;omega)]
   exact Zig n _ a b v.int Z H (by omega) (by omega) num.1 num.2 f
  have ah:(decide (0≤A3 a)&&decide (0≤A3 b))=false:=by
   rw [Bool.eq_false_iff]
   intro q
   rw [Bool.and_eq_true,decide_eq_true_eq,decide_eq_true_eq] at q
   exact num ⟨Pn q.1,Pn q.2⟩
  rw [Af num,ah,Af (show ¬ (false=true) by decide)]
  by_cases ne:a.kind=b.kind
  rotate_left
  ·rw [Ae ne,TT ne num,Ae (by rfl),Ac ne,Ae (by rfl)]
   exact Kv rfl rfl (Jq (by omega) rfl) (Jq (by omega) rfl)
  have af:¬ b.kind=2:=fun q=>num ⟨by omega,.inl q⟩
  have ad:¬ b.kind=3:=fun q=>num ⟨by omega,.inr q⟩
  have t:v.depth≤K+1+1048576:=by omega
  rw [Af (show ¬ a.kind≠b.kind from fun q=>q ne),MD (.inl ne),Af (show ¬ ((!true)=true) by decide),Ac af,Af (show ¬ (false=true) by decide),Ac ad,BJ,Af (show ¬ (false=true) by decide),Ad ne,Af (show ¬ ((!true)=true) by decide)]
  by_cases k67:b.kind=6∨b.kind=7
  ·have G:(if decide (b.kind=6)=true then BI (AH n) n a b v true else BI (AH n) n a b v (decide (b.kind=7)))=BI (AH n) n a b v true:=by
    rcases k67 with q | q
    ·rw [Ad q,Ae rfl]
    ·rw [Ad q];exact ite_self _
   have O:(if decide (b.kind=6)=true then Hj (Jt n) n a b v true else Hj (Jt n) n a b v (decide (b.kind=7)))=Hj (Jt n) n a b v true:=by
    rcases k67 with q | q
    ·rw [Ad q,Ae rfl]
    ·rw [Ad q];exact ite_self _
   rw [Ae k67,G,BI,Ae rfl,Ac (by omega),Af (by decide),Ac (by omega),Af (by decide),Ac (by omega),Af (by decide),O,Hj,Ae rfl]
   exact Kv rfl rfl (PS hv t) (PS hv t)
  have n6:¬ b.kind=6:=fun q=>k67 (.inl q)
  have n7:¬ b.kind=7:=fun q=>k67 (.inr q)
  rw [Af k67,Ac n6,Af (show ¬ (false=true) by decide),Ac n7,BI,Af (show ¬ (false=true) by decide),Af (show ¬ (false=true) by decide)]
  by_cases k5:b.kind=5
  ·rw [Ae k5,Ad k5,Ae rfl,Ac (by omega),Af (by decide),Ac (by omega),Af (by decide),Ae rfl]
   exact Kv rfl rfl (PS hv t) (PS hv t)
  rw [Af k5,Ac k5,Af (show ¬ (false=true) by decide),Af (show ¬ (false=true) by decide)]
  by_cases k4:b.kind=4
  ·have bw:=(b.ok_eq.1 sb.2.2).1
   rw [Ae k4,Ad k4,Ae rfl,Ac (show ¬ b.kind=1 by omega),Af (show ¬ (false=true) by decide),Ae rfl,Xj n v.text b (by omega) (by omega),Ab]
   refine Kv (r1:=(v,JR v.text b)) ?_ rfl (PS hv t) (PS hv t)
   rw [JR]
   by_cases q:b.words=[]
   ·rw [Ae q,q,Af (by decide)];rfl
   ·have q0:0<b.words.length:=List.length_pos_iff.2 q
    rw [Af q,Ae (by rw [decide_eq_true_eq];omega),Js n _ b (by omega) (by omega),Ab]
  rw [Af k4,Ac k4,Af (show ¬ (false=true) by decide),Af (show ¬ (false=true) by decide)]
  by_cases k8:b.kind=8
  ·obtain ⟨x,f⟩:=Z.elem (by omega)
   obtain ⟨y,N⟩:=H.elem k8
   have j:x∈a.elem:=by rw [f];simp
   have Q:y∈b.elem:=by rw [N];simp
   rw [Af (by omega),Af (by omega),Af (by omega),Af (by omega),Ae (by omega),Bool.and_eq_true,List.all_eq_true] at i
   have U:∀ u∈v.list,IE d x u=true:=fun u s=>by have:=i.2 u s;rw [f] at this;exact this
   have ih:=fun u (s:u∈v.list)=>Zl d n K e x y u (Ty.small_elem sa j) (Ty.small_elem sb Q) (GE ga j) (fb.elem Q) (v4 u s) (by have:=Vl.depth_list s;omega) (U u s) (by omega)
   obtain ⟨r1,G,u1⟩:=Zc9 (AH n) n (K+1048576) a b x y v (Sr d x y) f N (by omega) (by omega) (fun u s=>by obtain ⟨r1,r2,C,F,m,D⟩:=ih u s;exact ⟨r1,C,m⟩) v.list.length n 0 [] (by omega) (by omega) rfl (by simp)
   obtain ⟨r2,O,u2⟩:=ZaX (Jt n) n (K+1048576) a b x y v (Sr d x y) f N (by omega) (by omega) (fun u s=>by obtain ⟨r1,r2,C,F,m,D⟩:=ih u s;exact ⟨r2,F,D⟩) v.list.length n 0 [] (by omega) (by omega) rfl (by simp)
   rw [Ae k8,Ad k8,Ae rfl,Ac (by omega),Af (by decide),Hj,Af (by decide),Ad k8,Ae rfl,f,N]
   rw [List.drop_zero] at u1 u2
   exact Kv G O (by rw [Nat.add_right_comm];exact u1) (by rw [Nat.add_right_comm];exact u2)
  rw [Af k8,Ac k8,Af (show ¬ (false=true) by decide)]
  by_cases k9:b.kind=9
  ·rw [Af (by omega),Af (by omega),Af (by omega),Af (by omega),Af (by omega),Ae (by omega),Bool.and_eq_true,List.all_eq_true] at i
   have fx:∀ p∈a.fields,∀ x,CG v p.2.1=some x→IE d p.2.2.2.1 x=true:=fun p J x f=>by have:=i.1 p J;rw [f] at this;exact this
   have ih:∀ g∈b.fields,∀ p,E6 a.fields g.1=some p→∀ x,CG v p.2.1=some x→(∃ r1 r2,AH n p.2.2.2.1 g.2.2.2.1 x=some r1∧Jt n p.2.2.2.1 g.2.2.2.1 x=some r2∧JE (K+1048576) (Sr d p.2.2.2.1 g.2.2.2.1 x) r1∧JE (K+1048576) (Sr d p.2.2.2.1 g.2.2.2.1 x) r2)∧∀ y,Sr d p.2.2.2.1 g.2.2.2.1 x=some y→y.kind≠0:=fun g k p J x f=>by
    have l:p∈a.fields:=List.mem_of_find?_eq_some J
    have V:=fx p l x f
    obtain ⟨q,hq,_,rfl⟩:=KV f
    have fk:=O0 V
    have gk:=(BD fb.good k).own.kind
    exact ⟨Zl d n K e _ _ _ (Ty.small_field sa l) (Ty.small_field sb k) (BD ga l) (fb.field k) (v5 q hq).2 (by have:=Vl.depth_fld hq;omega) V (by omega),fun y N=>Zdm d _ _ _ y gk.1 (by omega) N⟩
   have hc:∀ q∈v.fields,Bn n q.2=some q.2:=fun q hq=>GK n q.2 (v5 q hq).2 (by have:=Vl.depth_fld hq;omega)
   have bn:=(b.ok_eq.1 sb.2.2).2.2.2
   have aa:∀ g∈b.fields,g.2.2.1=3→∃ x,g.2.2.2.2=[x]∧x.Nar∧x.depth≤K+1048576∧x.kind≠0:=fun g k m=>by
    obtain ⟨x,f⟩:=List.length_eq_one_iff.1 ((H.each g k).2.2.2.2.1 m)
    have j:x∈g.2.2.2.2:=by rw [f];simp
    obtain ⟨z1,z2,z3⟩:=(bn g k).2.2.2 x j
    have:=ZaE (OR (fb.dfl k x j).1)
    exact ⟨x,f,OA x.size x (Nat.le_refl _) (by omega) z3,by omega,by omega⟩
   have H1:RecH (AH n) n (K+1048576) a b v (Sr d):=⟨by omega,by omega,by omega,by omega,by omega,by omega,hc,fun g k=>(bn g k).1,fun g k p J x f=>by obtain ⟨⟨r1,r2,C,F,m,D⟩,h5⟩:=ih g k p J x f;exact ⟨r1,C,m,h5⟩,aa⟩
   have H2:RecH (Jt n) n (K+1048576) a b v (Sr d):=⟨by omega,by omega,by omega,by omega,by omega,by omega,hc,fun g k=>(bn g k).1,fun g k p J x f=>by obtain ⟨⟨r1,r2,C,F,m,D⟩,h5⟩:=ih g k p J x f;exact ⟨r2,F,D,h5⟩,aa⟩
   have A0:Acc (K+1048576) b 0 []:=⟨Nat.le_refl _,by simp,by rw [List.map_nil,List.nil_append,List.drop_zero];exact (MG _ _ _ H.apart).1⟩
   obtain ⟨r1,G,u1⟩:=Zg0 H1 b.fields.length n 0 [] (by omega) (by omega) A0
   obtain ⟨r2,O,u2⟩:=Za2 H2 b.fields.length n 0 [] (by omega) (by omega) A0
   rw [show B5 []=[] from List.length_eq_zero_iff.1 (by rw [Gt];rfl)] at O
   have ag:Et (AH n) n a b v=some r1:=G
   rw [Ae k9,Ad k9,Ae rfl,ag,Ab,Ac (by omega),Af (by decide),Hj,Af (by decide),Ac (by omega),Af (by decide),Ac (by omega),Af (by decide),V5]
   rw [List.drop_zero] at u1 u2
   exact Kv rfl O (by rw [Nat.add_right_comm];exact u1) (by rw [Nat.add_right_comm];exact u2)
  rw [Af k9,Ac k9,Af (show ¬ (false=true) by decide)]
  by_cases k10:b.kind=10
  ·rw [Af (by omega),Af (by omega),Af (by omega),Af (by omega),Af (by omega),Af (by omega),Ae (by omega)] at i
   rw [Ae k10,Ad k10,Ae rfl,Ac (by omega),Af (by decide),Hj,Af (by decide),Ac k8,Af (by decide),Ad k10,Ae rfl,Qm n a v.text (by omega) sa (by omega),Ab]
   have E:=Za7 (Jt n) n a b v (by omega) (by omega) (by omega) a.fields.length n 0 (by omega) (by omega)
   rw [List.drop_zero,Ti (fun p=>(E6 b.fields p.1).isSome) v.text a.fields (MG _ _ _ Z.apart).1] at E
   cases c:B6 a v.text with
   | none=>rw [c] at i;simp at i
   | some p =>
    have c':a.fields.find? (fun p=>Cb p.2.1 v.text)=some p:=c
    cases hl:v.list with
    | nil=>rw [c,hl] at i;simp at i
    | cons x xs =>
     rw [c,hl] at i
     have i:IE d p.2.2.2.1 x=true:=i
     have j:x∈v.list:=by rw [hl];simp
     have l:=(En c).1
     rw [c',hl] at E
     simp only [Option.getD_some]
     rw [Q3 n b.fields _ (by omega) (by omega),Ab]
     cases g:E6 b.fields p.1 with
     | none =>
      simp only [g,Option.isSome_none,Bool.false_eq_true,if_false] at E
      rw [Ae (by rfl)]
      exact Kv rfl E (Jq (by omega) rfl) (Jq (by omega) rfl)
     | some q =>
      have w:q∈b.fields:=List.mem_of_find?_eq_some g
      simp only [g,Option.isSome_some,if_true,Option.getD_some] at E
      obtain ⟨r1,r2,C,F,m,D⟩:=Zl d n K e p.2.2.2.1 q.2.2.2.1 x (Ty.small_field sa l) (Ty.small_field sb w) (BD ga l) (fb.field w) (v4 x j) (by have:=Vl.depth_list j;omega) i (by omega)
      have bn:=((b.ok_eq.1 sb.2.2).2.2.2 q w).1
      have ab:∀ {o:Option Vl} {r:Vl × Bool},JE (K+1048576) o r→(Vl.mk 10 0 0 q.2.1 [r.1] []).Nar∧(Vl.mk 10 0 0 q.2.1 [r.1] []).depth≤K+1+1048576:=fun {o r} u=>by
       refine ⟨.mk _ (by simp [Vl.list]) (by simp [Vl.fields]) bn (fun z hz=>?_) (by simp [Vl.fields]) (by simp [Vl.fields]),?_⟩
       ·have hz:z∈[r.1]:=hz
        rw [List.mem_singleton] at hz;subst hz;exact u.2.1
       ·have:=u.2.2
        simp only [Vl.depth,HT,HC];omega
      have fin:∀ {o:Option Vl} {r:Vl × Bool},JE (K+1048576) o r→JE (K+1+1048576) (o.map fun y=>Vl.mk 10 0 0 q.2.1 [y] []) (Vl.mk 10 0 0 q.2.1 [r.1] [],r.2):=fun {o r} u=>by
       obtain ⟨b1,b2⟩:=ab u
       refine ⟨?_,b1,b2⟩
       have u1:=u.1
       cases o with
       | none=>exact u1
       | some y =>
        have u1:r=(y,true):=u1
        subst u1;rfl
      rw [show B7 (x::xs) 0=some x from rfl,Ab,F,Ab] at E
      have Y:Jz n q.2.1 r1.1=some (Vl.mk 10 0 0 q.2.1 [r1.1] []):=by
       obtain ⟨b1,b2⟩:=ab m
       rw [Jz,GK n _ b1 (by omega)];rfl
      rw [Af (by simp),show B7 (x::xs) 0=some x from rfl,Ab,Option.getD_some,C,Ab,Y,Ab]
      simp only [g]
      exact Kv rfl E (fin m) (fin D)
  ·have k1:b.kind=1:=by have:=H.kind;omega
   rw [Af k10,Ac k10,Af (show ¬ (false=true) by decide),GR,Ad k1,Ae rfl]
   exact Kv rfl rfl ⟨rfl,hv,t⟩ ⟨rfl,hv,t⟩
theorem UI:∀ (l:List ByteArray) (o:Option ByteArray),Tm o l=0→∀ w∈l,E5 w=true
 | [],_,_,w,hw=>by simp at hw
 | x::r,o,h,w,hw=>by
  have a:E5 x=true∧Tm (some x) r=0:=by
   by_cases h0:E5 x=true
   ·refine ⟨h0,?_⟩
    cases o with
    | none=>rw [Tm,Ae h0] at h;exact h
    | some p =>
     rw [Tm,Ae h0] at h
     by_cases h1:Cb x p=true
     ·rw [Ae h1] at h;exact absurd h (by decide)
     rw [Af h1] at h
     by_cases h2:WT x p=true
     ·rw [Ae h2] at h;exact absurd h (by decide)
     rw [Af h2] at h;exact h
   ·cases o with
    | none=>rw [Tm,Af h0] at h;exact absurd h (by decide)
    | some p=>rw [Tm,Af h0] at h;exact absurd h (by decide)
  rcases List.mem_cons.1 hw with rfl | hw
  ·exact a.1
  ·exact UI r _ a.2 w hw
structure Vl.Own (v:Vl):Prop where
 kind:1≤v.kind∧v.kind≤10
 nolist:v.kind≠8→v.kind≠10→v.list=[]
 nofields:v.kind≠9→v.fields=[]
 text:v.text.size≤1024
 names:∀ p∈v.fields,p.1.size≤32
theorem Vl.own_of {v:Vl} (h:FR v=0):v.Own:=by
 obtain ⟨f,c⟩:=Po h
 have j:Ce v=false:=Zco (by omega)
 have i:v.kind≠8→v.kind≠10→v.list=[]:=fun q k=>by
  rcases Nat.eq_zero_or_pos v.list.length with e | e
  ·exact List.length_eq_zero_iff.1 e
  ·exfalso;apply c;rw [Dv];simp [q,k];omega
 have d:v.kind≠9→v.fields=[]:=fun q=>by
  rcases Nat.eq_zero_or_pos v.fields.length with e | e
  ·exact List.length_eq_zero_iff.1 e
  ·exfalso;apply c;rw [Dv];simp [q];omega
 have m:v.kind≠4→v.kind≠5→v.kind≠10→v.text.size=0:=fun l g n=>by
  cases hs:Cb v.text ⟨#[]⟩ with
  | true=>exact ZbH hs
  | false=>exfalso;apply c;rw [Dv];simp [l,g,n,hs]
 rw [FR,j,Af (by decide),Af f,Af c] at h
 have nm:v.kind=9→∀ p∈v.fields,p.1.size≤32:=fun b p a=>by
  rw [Af (by omega),Af (by omega),Af (by omega),Af (by omega),Af (by omega),Af (by omega),Af (by omega),Af (by omega),Ae b] at h
  by_cases q:64<v.fields.length
  ·rw [Ae q] at h;exact absurd h (by decide)
  rw [Af q] at h
  exact Yh (UI _ _ h p.1 (List.mem_map_of_mem a))
 refine ⟨by omega,i,d,?_,fun p a=>?_⟩
 ·by_cases k4:v.kind=4
  ·rw [Af (by omega),Af (by omega),Af (by omega),Ae k4] at h
   by_cases q:1024<v.text.size
   ·rw [Ae q] at h;exact absurd h (by decide)
   ·omega
  by_cases k5:v.kind=5
  ·rw [Af (by omega),Af (by omega),Af (by omega),Af (by omega),Ae k5] at h
   by_cases q:1024<v.text.size
   ·rw [Ae q] at h;exact absurd h (by decide)
   ·omega
  by_cases k10:v.kind=10
  ·rw [Af (by omega),Af (by omega),Af (by omega),Af (by omega),Af (by omega),Af (by omega),Af (by omega),Af (by omega),Af (by omega)] at h
   by_cases q:E5 v.text=true
   ·have:=Yh q;omega
   ·rw [Af q] at h;exact absurd h (by decide)
  ·have:=m k4 k5 k10;omega
 ·by_cases b:v.kind=9
  ·exact nm b p a
  ·rw [d b] at a;simp at a
theorem Vl.Good.own {v:Vl} (h:v.Good):v.Own:=Vl.own_of (M7 h)
theorem WE:∀ (k:Nat) (v:Vl) (lv:Nat),v.size≤k→v.Good→(EQ lv v).length=v.size
 | 0,v,lv,h,_=>absurd h (by have:=v.size_eq;omega)
 | k+1,v,lv,h,g=>by
  have own:=g.own
  rw [Nw,List.length_cons,List.length_flatMap]
  have b:((BV v).map fun x=>(EQ (lv+1) x).length)=(BV v).map Vl.size:=List.map_congr_left fun x a=>WE k x (lv+1) (by have:=Jc a;omega) (NS g a)
  rw [b]
  have c:=v.size_eq
  by_cases k8:v.kind=8∨v.kind=10
  ·rw [BV,Ae k8,←TS]
   rw [own.nofields (by omega)] at c
   simp only [Gk] at c
   omega
  by_cases k9:v.kind=9
  ·rw [BV,Af k8,Ae k9,List.map_map]
   have:=Ue v.fields
   have e:(v.fields.map (Vl.size∘fun x=>x.2)).sum=Gk v.fields:=this.symm
   rw [own.nolist (by omega) (by omega)] at c
   simp only [G8] at c
   omega
  ·rw [BV,Af k8,Af k9]
   rw [own.nolist (by omega) (by omega),own.nofields k9] at c
   simp only [G8,Gk] at c
   simp;omega
theorem Vl.depth_part {v x:Vl} (h:x∈BV v):x.depth<v.depth:=by
 have e:=v.depth_eq
 rcases O7 h with hx | ⟨p,hp,rfl⟩
 ·have:=(Ia v.list (HT v.list)).1 (Nat.le_refl _) x hx;omega
 ·have:=(Jg v.fields (HC v.fields)).1 (Nat.le_refl _) p hp;omega
theorem ZU (k i s:Int) (t:ByteArray) (L:List Vl) (F:List (ByteArray × Vl)) (B:Nat) (ht:t.size≤1048576) (hL:L.length≤100000000) (hF:F.length≤100000000) (h1:∀ x∈L,x.Nar∧x.depth≤B) (h2:∀ p∈F,p.1.size≤1048576∧p.2.Nar∧p.2.depth≤B):(Vl.mk k i s t L F).Nar∧(Vl.mk k i s t L F).depth≤B+1:=by
 refine ⟨.mk _ hL hF ht (fun x d=>(h1 x d).1) (fun p c=>(h2 p c).1) (fun p c=>(h2 p c).2.1),?_⟩
 have a:=(Ia L B).2 fun x d=>(h1 x d).2
 have b:=(Jg F B).2 fun p c=>(h2 p c).2.2
 simp only [Vl.depth];omega
theorem Za:∀ (ps:List TF) (l:List (ByteArray × Vl)),(Qc ps l).length≤l.length+ps.length∧∀ q∈Qc ps l,q∈l∨∃ p∈ps,q.1=p.2.1∧q.2∈p.2.2.2.2
 | [],l=>⟨Nat.le_refl _,fun q e => .inl e⟩
 | p::ps,l=>by
  have d:∀ f,f.length≤l.length+1→(∀ q∈f,q∈l∨(q.1=p.2.1∧q.2∈p.2.2.2.2))→(Qc ps f).length≤l.length+(p::ps).length∧∀ q∈Qc ps f,q∈l∨∃ x∈p::ps,q.1=x.2.1∧q.2∈x.2.2.2.2:=fun f j i=>by
   obtain ⟨a,b⟩:=Za ps f
   refine ⟨by rw [List.length_cons];omega,fun q e=>?_⟩
   rcases b q e with h | ⟨x,g,h⟩
   ·rcases i q h with h | h
    ·exact .inl h
    ·exact .inr ⟨p,List.mem_cons_self .., h⟩
   ·exact .inr ⟨x,List.mem_cons_of_mem _ g,h⟩
  rw [Qc]
  cases c:ZfR p with
  | none=>exact d l (by omega) fun q e => .inl e
  | some x =>
   have g:x∈p.2.2.2.2:=by
    rw [ZfR] at c
    split at c
    ·exact List.mem_of_getElem? c
    ·cases c
   simp only
   split
   ·exact d l (by omega) fun q e => .inl e
   ·refine d _ (by rw [Zq];omega) fun q e=>?_
    rcases List.mem_cons.1 ((Rk l p.2.1 x).mem_iff.1 e) with rfl | h
    ·exact .inr ⟨rfl,g⟩
    ·exact .inl h
theorem OY:∀ (d:Nat) (t:Ty) (v:Vl),t.small→v.ok→v.size≤1048576→(BC d t v).Nar∧(BC d t v).depth≤v.depth+1048576
 | 0,t,v,_,hv,hs=>⟨OA v.size v (Nat.le_refl _) hs hv,by rw [BC];omega⟩
 | d+1,t,v,ht,hv,hs=>by
  have f:v.Nar∧v.depth≤v.depth+1048576:=⟨OA v.size v (Nat.le_refl _) hs hv,by omega⟩
  have H:=It v
  have Q:=t.lens
  have O:=ht.1
  obtain ⟨o,C,l⟩:=v.ok_eq.1 hv
  obtain ⟨V,U,K,s⟩:=t.ok_eq.1 ht.2.2
  have G:=v.depth_eq
  have r:∀ u∈v.list,u.Nar∧u.depth≤v.depth-1+1048576:=fun u i=>⟨OA u.size u (Nat.le_refl _) (by have:=v.list_size u i;omega) (C u i),by have:=Vl.depth_list i;omega⟩
  have k:∀ q∈v.fields,q.1.size≤1048576∧q.2.Nar∧q.2.depth≤v.depth-1+1048576:=fun q g=>⟨(l q g).1,OA q.2.size q.2 (Nat.le_refl _) (by have:=v.field_size q g;omega) (l q g).2,by have:=Vl.depth_fld g;omega⟩
  have cl:∀ x,x.small→∀ u∈v.list,(BC d x u).Nar∧(BC d x u).depth≤v.depth-1+1048576:=fun x hx u i=>by
   obtain ⟨a,b⟩:=OY d x u hx (C u i) (by have:=v.list_size u i;omega)
   exact ⟨a,by have:=Vl.depth_list i;omega⟩
  have E:∀ x,x.small→∀ q∈v.fields,(BC d x q.2).Nar∧(BC d x q.2).depth≤v.depth-1+1048576:=fun x hx q g=>by
   obtain ⟨a,b⟩:=OY d x q.2 hx (l q g).2 (by have:=v.field_size q g;omega)
   exact ⟨a,by have:=Vl.depth_fld g;omega⟩
  have up:v.depth-1+1048576+1=v.depth+1048576:=by omega
  rw [BC]
  split
  ·exact f
  split
  ·rename_i k9
   have m:EV (BC d) t v=HJ v (v.fields.map fun q=>match B6 t q.1 with | some p=>(q.1,BC d p.2.2.2.1 q.2) | none=>q):=by rw [EV,Af (by omega),Ae k9];rfl
   have F:∀ q∈(EV (BC d) t v).fields,q.1.size≤1048576∧q.2.Nar∧q.2.depth≤v.depth-1+1048576:=fun q g=>by
    rw [m] at g
    obtain ⟨z,n,rfl⟩:=List.mem_map.1 (show q∈v.fields.map _ from g)
    cases c:B6 t z.1 with
    | none=>exact k z n
    | some p=>exact ⟨(l z n).1,E _ (Ty.small_field ht (En c).1) z n⟩
   have w:(EV (BC d) t v).fields.length=v.fields.length:=by rw [m];exact List.length_map _
   obtain ⟨a1,a2⟩:=Za t.fields (EV (BC d) t v).fields
   have:=ZU v.kind v.int v.scale v.text v.list (Qc t.fields (EV (BC d) t v).fields) (v.depth-1+1048576) o (by omega) (by omega) r (fun q g=>by
    rcases a2 q g with h | ⟨p,hp,h1,h2⟩
    ·exact F q h
    ·obtain ⟨J,N,D⟩:=(s p hp).2.2.2 q.2 h2
     exact ⟨by rw [h1];exact (s p hp).1,OA q.2.size q.2 (Nat.le_refl _) (by omega) D,by omega⟩)
   rw [up] at this
   have e:HJ (EV (BC d) t v) (Qc t.fields (EV (BC d) t v).fields)=Vl.mk v.kind v.int v.scale v.text v.list (Qc t.fields (EV (BC d) t v).fields):=by rw [m];rfl
   rw [e]
   exact this
  ·rename_i k9
   rw [EV]
   split
   ·split
    ·rename_i x he
     have j:x∈t.elem:=by rw [he];simp
     have:=ZU v.kind v.int v.scale v.text (v.list.map (BC d x)) v.fields (v.depth-1+1048576) o (by rw [List.length_map];omega) (by omega) (fun y hy=>by
      obtain ⟨u,i,rfl⟩:=List.mem_map.1 hy
      exact cl x (Ty.small_elem ht j) u i) k
     rw [up] at this
     exact this
    ·exact f
   ·split
    ·split
     ·rename_i p x xs hp hx
      have j:x∈v.list:=by rw [hx];simp
      have:=ZU v.kind v.int v.scale v.text [BC d p.2.2.2.1 x] v.fields (v.depth-1+1048576) o (by simp) (by omega) (fun y hy=>by
       rw [List.mem_singleton] at hy;subst hy
       exact cl _ (Ty.small_field ht (En hp).1) x j) k
      rw [up] at this
      exact this
     ·exact f
    ·exact f
theorem Zbu:∀ (k:Nat) (v:Vl) (lv:Nat),v.size≤k→v.Nar→∀ p∈EQ lv v,p.2.Nar
 | 0,v,lv,h,_,_,_=>absurd h (by have:=v.size_eq;omega)
 | k+1,v,lv,h,hv,p,hp=>by
  rw [Nw] at hp
  rcases List.mem_cons.1 hp with rfl | hp
  ·exact hv
  ·obtain ⟨x,a,hp⟩:=List.mem_flatMap.1 hp
   have:=Jc a
   exact Zbu k x (lv+1) (by omega) (by
    rcases O7 a with h | ⟨q,hq,rfl⟩
    ·exact hv.list h
    ·exact hv.field hq) p hp
theorem Vo (n:Nat) (v:Vl) (hn:1000000000≤n) (hs:v.depth<4611686018427387904) (hv:v.Nar):EX n v=some (L1 v):=by
 rw [EX,Ae ⟨hs,hv.wide⟩]
 exact R2 n (by omega) _ 0 (fun p a=>by
  have h:=Zbu v.size v 1 (Nat.le_refl _) hv p a
  have b:=h.inv
  exact ⟨h.ok,by omega,by omega⟩) (by omega) (by omega)
theorem Zg:∀ (l:List (Nat × Vl)) (c:Int),c≤4096→SK l c=0→c+l.length≤4096
 | [],c,hc,_=>by simpa using hc
 | p::r,c,hc,h=>by
  rw [SK] at h
  split at h
  ·cases h
  split at h
  ·cases h
  split at h
  ·have:=Zg r (c+1) (by omega) h
   rw [List.length_cons];omega
  ·rename_i h0;exact absurd h h0
theorem ZdS {v:Vl} (h:L1 v=0):v.size≤4096:=by
 have a:=Zg (EQ 1 v) 0 (by omega) h
 have b:=WE v.size v 1 (Nat.le_refl _) (OR h)
 omega
theorem SG (n:Nat) (t:Ty) (v:Vl) (ht:t.small) (hv:v.ok) (hs:v.size≤1048576) (hn:2100000000≤n):FC n t v=some (if IE 12 t (BC 12 t v)=true then (BC 12 t v,0) else (nilV,18)):=by
 obtain ⟨c,e⟩:=OY 12 t v ht hv hs
 have d:=v.depth_size
 have b:=ht.1
 have a:=ht.2.2
 rw [FC,LH 12 n t v ht.2.1 b hs hv (by omega),Ab,Zf3 n 12 t _ ht.2.1 (by omega) b a c (by omega) (by omega),Ab]
 cases IE 12 t (BC 12 t v) with
 | false=>rfl
 | true=>rw [Af (by decide),GK n _ c (by omega),Ab,Ae rfl]
def L8 (n:Nat)  : Option Int :=
 some (0)
def Ff (n:Nat) (h:List Int):Nat→Int→Option Int
 | 0,_=>none
 | m+1,b =>
  if decide (b<(h.length:Int)) then
   (B7 h b).bind fun g =>
   if !(decide (g=0)) then
    some (g)
   else
    if BQ (b+1) then
     (Ff n h m) (b+1)
    else none
  else
   L8 n 
def IF (n:Nat) (b:List Int):Option Int :=
 Ff n b n 0
theorem PO (w0:World) (n:Nat) (B:List (List AV)) (Rw:List RowA) (L:List LoopA) (a0:List Int) (r:Int) (h:IF n a0=some r) :
  ACalls Tryz.prog w0 142 [.list (a0.map Yg) .none] ⟨B,Rw,L⟩ fun x st=>x = .val (.int .i64 r)∧st=⟨B,Rw,L⟩:=by
 rw [IF] at h
 refine hd [.tmp 2] Tryz.func142 Tryz.ntmps142 fun M0 W0 u l o b y c hs=>?_
 simp only [Au]
 refine rg [0] hs ?_
 refine rg [0,3] hs ?_
 refine Aw (fun e st=>Ck e st B Rw L [(3,true,.val (.int .i64 0))] [] [] (L8 n  = some r)) ?_ ?_
 ·intro K5 p
  refine rg [3,6,7,8] hs ?_
  apply Ak
  refine AC (fun m e st=>∃ (a:Int),Ck e st B Rw L [(3,true,.val (.int .i64 0)),(6,true,.list (a0.map Yg) .none),(7,true,.val (.int .i64 (a0.length:Int))),(8,true,.val (.int .i64 a))] [] [] (Ff n a0 m a=some r)) n ⟨0,([]),Rw,ef hs,ef hs,c,h⟩ ?_
  rintro ml7 e st ⟨a,Xl7,Rl7,rfl,rfl,c,h⟩ Ul7 Vl7
  cases ml7 with
  | zero=>cases h
  | succ ml7 =>
  rw [Ff] at h
  refine td u l o b c ?_
  refine rg [3,6,7,8,9] hs ?_
  apply Ah;intro K9 k
  refine AN h hs (fun hs h=>?_) (fun hs h=>?_)
  rotate_left
  ·refine sx [3] hs p ?_
   exact ⟨([]),Rl7,ef hs,ef hs,c,h⟩
  refine sk [3,6,7,8] hs k ?_
  clear k
  apply Ah;intro K11 d
  apply Ak
  obtain ⟨w,j,h⟩:=bind_some h
  obtain ⟨q,t,g⟩:=AA j
  have i:=AB (f:=Yg) g
  have hs:=Aa i hs
  refine rg [3,5,6,7,8] hs ?_
  refine rg [3,5,6,7,8,14] hs ?_
  refine AN h hs (fun hs h=>?_) (fun hs h=>?_)
  ·refine rg [2] hs ?_
   exact rt h hs b c
  refine sk [3,6,7,8] hs d ?_
  clear d
  obtain ⟨v,h⟩:=Aj h
  refine rl [3,6,7,8] hs (fun e s=>Vl7 ml7 e s (Nat.lt_succ_self _)) ?_
  exact ⟨(a+1),([]),Rl7,ef hs,ef hs,c,h⟩
 ·clear h;rintro e st ⟨Xk4,Rk4,rfl,rfl,c,h⟩
  rw [L8] at h
  refine td u l o b c ?_
  refine rg [2] hs ?_
  exact rt h hs b c
def GO (n:Nat)  : Option Bool :=
 some (true)
def Ew (n:Nat) (g:List Vl) (a1:List Vl) (y:Vl→Vl→Option Bool):Nat→Int→Option Bool
 | 0,_=>none
 | m+1,b =>
  if decide (b<(g.length:Int)) then
   (B7 g b).bind fun q =>
   (B7 a1 b).bind fun h =>
   (y q h).bind fun s =>
   if !s then
    some (false)
   else
    if BQ (b+1) then
     (Ew n g a1 y m) (b+1)
    else none
  else
   GO n 
def GZ (n:Nat) (g:List Vl) (b:List Vl) (h:Vl→Vl→Option Bool):Option Bool :=
 if !(decide ((g.length:Int)=(b.length:Int))) then
  some (false)
 else
  Ew n g b h n 0
theorem N9 (w0:World) (n:Nat) (B:List (List AV)) (Rw:List RowA) (L:List LoopA) (a0:List Vl) (a1:List Vl) (fa2:FuncId) (ca2:List AV) (a2:Vl→Vl→Option Bool) (ha2:∀ (x0:Vl) (x1:Vl) r,a2 x0 x1=some r→∀ B' rows,B <+: B'→Rw <+: rows→ACalls Tryz.prog w0 fa2 ([.agg (x0.cs),.agg (x1.cs)]++ca2) ⟨B',rows,L⟩ fun v s=>v = .val (.bool r)∧s=⟨B',rows,L⟩) (r:Bool) (h:GZ n a0 a1 a2=some r) :
  ACalls Tryz.prog w0 208 [.list (a0.map Bo) .none,.list (a1.map Bo) .none,.clo fa2 ca2] ⟨B,Rw,L⟩ fun x st=>x = .val (.bool r)∧st=⟨B,Rw,L⟩:=by
 rw [GZ] at h
 refine hd [.tmp 6] Tryz.func208 Tryz.ntmps208 fun M0 W0 K q z b Q d hs=>?_
 simp only [Au]
 have c:=CH (Q (.clo fa2 ca2) (by simp))
 refine rg [0,1,2] hs ?_
 apply Ah;intro K2 C
 refine rg [0,1,2,14] hs ?_
 refine AN h hs (fun hs h=>?_) (fun hs h=>?_)
 ·refine rg [6] hs ?_
  exact rt h hs b d
 refine sk [0,1,2] hs C ?_
 clear C
 refine Aw (fun e st=>Ck e st B Rw L [] [] [] (GO n  = some r)) ?_ ?_
 ·intro K8 F
  refine rg [1,2,15,16,17] hs ?_
  apply Ak
  refine AC (fun m e st=>∃ (a:Int),Ck e st B Rw L [(1,true,.list (a1.map Bo) .none),(2,true,.clo fa2 ca2),(15,true,.list (a0.map Bo) .none),(16,true,.val (.int .i64 (a0.length:Int))),(17,true,.val (.int .i64 a))] [] [] (Ew n a0 a1 a2 m a=some r)) n ⟨0,([]),Rw,ef hs,ef hs,d,h⟩ ?_
  rintro ml10 e st ⟨a,Xl10,Rl10,rfl,rfl,d,h⟩ Ul10 Vl10
  cases ml10 with
  | zero=>cases h
  | succ ml10 =>
  rw [Ew] at h
  refine AM K q z rfl b d (Ju c d) (Ju c d) ?_
  refine rg [1,2,15,16,17,18] hs ?_
  apply Ah;intro K12 i
  refine AN h hs (fun hs h=>?_) (fun hs h=>?_)
  rotate_left
  ·refine sx [] hs F ?_
   exact ⟨([]),Rl10,ef hs,ef hs,d,h⟩
  refine sk [1,2,15,16,17] hs i ?_
  clear i
  apply Ah;intro K14 j
  apply Ak
  obtain ⟨t,D,h⟩:=bind_some h
  obtain ⟨J,E,o⟩:=AA D
  have l:=AB (f:=Bo) o
  have hs:=Aa l hs
  refine rg [1,2,7,8,15,16,17] hs ?_
  obtain ⟨u,w,h⟩:=bind_some h
  obtain ⟨G,H,k⟩:=AA w
  have p:=AB (f:=Bo) k
  have hs:=Aa p hs
  refine rg [1,2,8,9,15,16,17] hs ?_
  obtain ⟨O,y,h⟩:=bind_some h
  refine rc 2 [1,2,15,16,17,30] hs ?_;intro K19 g
  refine F7 _ (ha2 t u _ y _ _ px d.pre) (hv hs) ?_
  refine ne hs g ?_
  clear g
  refine AN h hs (fun hs h=>?_) (fun hs h=>?_)
  ·refine rg [6] hs ?_
   exact rt h hs b d
  refine sk [1,2,15,16,17] hs j ?_
  clear j
  obtain ⟨N,h⟩:=Aj h
  refine rl [1,2,15,16,17] hs (fun e s=>Vl10 ml10 e s (Nat.lt_succ_self _)) ?_
  exact ⟨(a+1),([t.cs,u.cs]),Rl10,ef hs,ef hs,d,h⟩
 ·clear h;rintro e st ⟨Xk7,Rk7,rfl,rfl,d,h⟩
  rw [GO] at h
  refine AM K q z rfl b d (Ju c d) (Ju c d) ?_
  refine rg [6] hs ?_
  exact rt h hs b d
def Eg (n:Nat) (b:List (ByteArray × Vl)) (g:List (ByteArray × Vl)):Option Int :=
 if decide ((b.length:Int)<(g.length:Int)) then
  some ((-1))
 else
  some (0)
def BR (n:Nat) (h:List (ByteArray × Vl)) (q:List (ByteArray × Vl)) (a2:(ByteArray × Vl)→(ByteArray × Vl)→Option Int):Nat→Int→Option Int
 | 0,_=>none
 | m+1,b =>
  if decide (b<(h.length:Int)) then
   (B7 h b).bind fun s =>
   if decide ((q.length:Int)≤b) then
    some (1)
   else
    (B7 q b).bind fun y =>
    (a2 s y).bind fun g =>
    if !(decide (g=0)) then
     some (g)
    else
     if BQ (b+1) then
      (BR n h q a2 m) (b+1)
     else none
  else
   Eg n h q 
def Eu (n:Nat) (g:List (ByteArray × Vl)) (b:List (ByteArray × Vl)) (h:(ByteArray × Vl)→(ByteArray × Vl)→Option Int):Option Int :=
 BR n g b h n 0
theorem MZ (w0:World) (n:Nat) (B:List (List AV)) (Rw:List RowA) (L:List LoopA) (a0:List (ByteArray × Vl)) (a1:List (ByteArray × Vl)) (fa2:FuncId) (ca2:List AV) (a2:(ByteArray × Vl)→(ByteArray × Vl)→Option Int) (ha2:∀ (x0:ByteArray × Vl) (x1:ByteArray × Vl) r,a2 x0 x1=some r→∀ B' rows,B <+: B'→Rw <+: rows→ACalls Tryz.prog w0 fa2 ([.agg (.val (.string x0.1)::(x0.2.cs)),.agg (.val (.string x1.1)::(x1.2.cs))]++ca2) ⟨B',rows,L⟩ fun v s=>v = .val (.int .i64 r)∧s=⟨B',rows,L⟩) (r:Int) (h:Eu n a0 a1 a2=some r) :
  ACalls Tryz.prog w0 145 [.list (a0.map BM) .none,.list (a1.map BM) .none,.clo fa2 ca2] ⟨B,Rw,L⟩ fun x st=>x = .val (.int .i64 r)∧st=⟨B,Rw,L⟩:=by
 rw [Eu] at h
 refine hd [.tmp 6] Tryz.func145 Tryz.ntmps145 fun M0 W0 O w E a U d hs=>?_
 simp only [Au]
 have c:=CH (U (.clo fa2 ca2) (by simp))
 refine rg [0,1,2] hs ?_
 refine Aw (fun e st=>Ck e st B Rw L [(0,true,.list (a0.map BM) .none),(1,true,.list (a1.map BM) .none)] [] [] (Eg n a0 a1  = some r)) ?_ ?_
 ·intro K4 J
  refine rg [0,1,2,11,12,13] hs ?_
  apply Ak
  refine AC (fun m e st=>∃ (b:Int),Ck e st B Rw L [(0,true,.list (a0.map BM) .none),(1,true,.list (a1.map BM) .none),(2,true,.clo fa2 ca2),(11,true,.list (a0.map BM) .none),(12,true,.val (.int .i64 (a0.length:Int))),(13,true,.val (.int .i64 b))] [] [] (BR n a0 a1 a2 m b=some r)) n ⟨0,([]),Rw,ef hs,ef hs,d,h⟩ ?_
  rintro ml6 e st ⟨b,Xl6,Rl6,rfl,rfl,d,h⟩ Ul6 Vl6
  cases ml6 with
  | zero=>cases h
  | succ ml6 =>
  rw [BR] at h
  refine AM O w E rfl a d (Ju c d) (Ju c d) ?_
  refine rg [0,1,2,11,12,13,14] hs ?_
  apply Ah;intro K8 y
  refine AN h hs (fun hs h=>?_) (fun hs h=>?_)
  rotate_left
  ·refine sx [0,1] hs J ?_
   exact ⟨([]),Rl6,ef hs,ef hs,d,h⟩
  refine sk [0,1,2,11,12,13] hs y ?_
  clear y
  apply Ah;intro K10 k
  apply Ak
  obtain ⟨t,D,h⟩:=bind_some h
  obtain ⟨K,F,p⟩:=AA D
  have q:=AB (f:=BM) p
  have hs:=Aa q hs
  refine rg [0,1,2,7,8,11,12,13] hs ?_
  apply Ah;intro K13 j
  refine rg [0,1,2,7,8,11,12,13,21] hs ?_
  refine AN h hs (fun hs h=>?_) (fun hs h=>?_)
  ·refine rg [6] hs ?_
   exact rt h hs a d
  refine sk [0,1,2,7,8,11,12,13] hs j ?_
  clear j
  obtain ⟨l,z,h⟩:=bind_some h
  obtain ⟨G,H,o⟩:=AA z
  have u:=AB (f:=BM) o
  have hs:=Aa u hs
  refine rg [0,1,2,8,9,11,12,13] hs ?_
  obtain ⟨Q,C,h⟩:=bind_some h
  refine rc 2 [0,1,2,10,11,12,13] hs ?_;intro K19 g
  refine F7 _ (ha2 t l _ C _ _ px d.pre) (hv hs) ?_
  refine ne hs g ?_
  clear g
  refine rg [0,1,2,10,11,12,13,31] hs ?_
  refine AN h hs (fun hs h=>?_) (fun hs h=>?_)
  ·refine rg [6] hs ?_
   exact rt h hs a d
  refine sk [0,1,2,11,12,13] hs k ?_
  clear k
  obtain ⟨N,h⟩:=Aj h
  refine rl [0,1,2,11,12,13] hs (fun e s=>Vl6 ml6 e s (Nat.lt_succ_self _)) ?_
  exact ⟨(b+1),([.val (.string t.1)::(t.2.cs),.val (.string l.1)::(l.2.cs)]),Rl6,ef hs,ef hs,d,h⟩
 ·clear h;rintro e st ⟨Xk3,Rk3,rfl,rfl,d,h⟩
  rw [Eg] at h
  refine AM O w E rfl a d (Ju c d) (Ju c d) ?_
  apply Ah;intro K25 i
  refine rg [38] hs ?_
  refine AN h hs (fun hs h=>?_) (fun hs h=>?_)
  ·refine rg [6] hs ?_
   exact rt h hs a d
  refine sk [] hs i ?_
  clear i
  refine rg [6] hs ?_
  exact rt h hs a d
def Ee (n:Nat) (b:List Vl) (g:List Vl):Option Int :=
 if decide ((b.length:Int)<(g.length:Int)) then
  some ((-1))
 else
  some (0)
def BS (n:Nat) (h:List Vl) (q:List Vl) (a2:Vl→Vl→Option Int):Nat→Int→Option Int
 | 0,_=>none
 | m+1,b =>
  if decide (b<(h.length:Int)) then
   (B7 h b).bind fun s =>
   if decide ((q.length:Int)≤b) then
    some (1)
   else
    (B7 q b).bind fun y =>
    (a2 s y).bind fun g =>
    if !(decide (g=0)) then
     some (g)
    else
     if BQ (b+1) then
      (BS n h q a2 m) (b+1)
     else none
  else
   Ee n h q 
def Es (n:Nat) (g:List Vl) (b:List Vl) (h:Vl→Vl→Option Int):Option Int :=
 BS n g b h n 0
theorem MC (w0:World) (n:Nat) (B:List (List AV)) (Rw:List RowA) (L:List LoopA) (a0:List Vl) (a1:List Vl) (fa2:FuncId) (ca2:List AV) (a2:Vl→Vl→Option Int) (ha2:∀ (x0:Vl) (x1:Vl) r,a2 x0 x1=some r→∀ B' rows,B <+: B'→Rw <+: rows→ACalls Tryz.prog w0 fa2 ([.agg (x0.cs),.agg (x1.cs)]++ca2) ⟨B',rows,L⟩ fun v s=>v = .val (.int .i64 r)∧s=⟨B',rows,L⟩) (r:Int) (h:Es n a0 a1 a2=some r) :
  ACalls Tryz.prog w0 144 [.list (a0.map Bo) .none,.list (a1.map Bo) .none,.clo fa2 ca2] ⟨B,Rw,L⟩ fun x st=>x = .val (.int .i64 r)∧st=⟨B,Rw,L⟩:=by
 rw [Es] at h
 refine hd [.tmp 6] Tryz.func144 Tryz.ntmps144 fun M0 W0 O t E a U d hs=>?_
 simp only [Au]
 have c:=CH (U (.clo fa2 ca2) (by simp))
 refine rg [0,1,2] hs ?_
 refine Aw (fun e st=>Ck e st B Rw L [(0,true,.list (a0.map Bo) .none),(1,true,.list (a1.map Bo) .none)] [] [] (Ee n a0 a1  = some r)) ?_ ?_
 ·intro K4 J
  refine rg [0,1,2,11,12,13] hs ?_
  apply Ak
  refine AC (fun m e st=>∃ (b:Int),Ck e st B Rw L [(0,true,.list (a0.map Bo) .none),(1,true,.list (a1.map Bo) .none),(2,true,.clo fa2 ca2),(11,true,.list (a0.map Bo) .none),(12,true,.val (.int .i64 (a0.length:Int))),(13,true,.val (.int .i64 b))] [] [] (BS n a0 a1 a2 m b=some r)) n ⟨0,([]),Rw,ef hs,ef hs,d,h⟩ ?_
  rintro ml6 e st ⟨b,Xl6,Rl6,rfl,rfl,d,h⟩ Ul6 Vl6
  cases ml6 with
  | zero=>cases h
  | succ ml6 =>
  rw [BS] at h
  refine AM O t E rfl a d (Ju c d) (Ju c d) ?_
  refine rg [0,1,2,11,12,13,14] hs ?_
  apply Ah;intro K8 u
  refine AN h hs (fun hs h=>?_) (fun hs h=>?_)
  rotate_left
  ·refine sx [0,1] hs J ?_
   exact ⟨([]),Rl6,ef hs,ef hs,d,h⟩
  refine sk [0,1,2,11,12,13] hs u ?_
  clear u
  apply Ah;intro K10 k
  apply Ak
  obtain ⟨D,C,h⟩:=bind_some h
  obtain ⟨K,F,o⟩:=AA C
  have p:=AB (f:=Bo) o
  have hs:=Aa p hs
  refine rg [0,1,2,7,8,11,12,13] hs ?_
  apply Ah;intro K13 j
  refine rg [0,1,2,7,8,11,12,13,21] hs ?_
  refine AN h hs (fun hs h=>?_) (fun hs h=>?_)
  ·refine rg [6] hs ?_
   exact rt h hs a d
  refine sk [0,1,2,7,8,11,12,13] hs j ?_
  clear j
  obtain ⟨w,y,h⟩:=bind_some h
  obtain ⟨G,H,l⟩:=AA y
  have q:=AB (f:=Bo) l
  have hs:=Aa q hs
  refine rg [0,1,2,8,9,11,12,13] hs ?_
  obtain ⟨Q,z,h⟩:=bind_some h
  refine rc 2 [0,1,2,10,11,12,13] hs ?_;intro K19 g
  refine F7 _ (ha2 D w _ z _ _ px d.pre) (hv hs) ?_
  refine ne hs g ?_
  clear g
  refine rg [0,1,2,10,11,12,13,31] hs ?_
  refine AN h hs (fun hs h=>?_) (fun hs h=>?_)
  ·refine rg [6] hs ?_
   exact rt h hs a d
  refine sk [0,1,2,11,12,13] hs k ?_
  clear k
  obtain ⟨N,h⟩:=Aj h
  refine rl [0,1,2,11,12,13] hs (fun e s=>Vl6 ml6 e s (Nat.lt_succ_self _)) ?_
  exact ⟨(b+1),([D.cs,w.cs]),Rl6,ef hs,ef hs,d,h⟩
 ·clear h;rintro e st ⟨Xk3,Rk3,rfl,rfl,d,h⟩
  rw [Ee] at h
  refine AM O t E rfl a d (Ju c d) (Ju c d) ?_
  apply Ah;intro K25 i
  refine rg [38] hs ?_
  refine AN h hs (fun hs h=>?_) (fun hs h=>?_)
  ·refine rg [6] hs ?_
   exact rt h hs a d
  refine sk [] hs i ?_
  clear i
  refine rg [6] hs ?_
  exact rt h hs a d
def GA (rec:Vl→Vl→Option Int) (n:Nat) (b:ByteArray × Vl) (g:ByteArray × Vl):Option Int :=
 (rec b.2 g.2).bind fun q =>
 (IF n ([ER b.1 g.1,q])).bind fun h =>
 some (h)
theorem Uf (w0:World) (rec:Vl→Vl→Option Int) (ih:∀ (B:List (List AV)) (Rw:List RowA) (L:List LoopA) (a0:Vl) (a1:Vl) (r:Int) (h:rec a0 a1=some r),ACalls Tryz.prog w0 83 [.agg (a0.cs),.agg (a1.cs)] ⟨B,Rw,L⟩ fun x st=>x = .val (.int .i64 r)∧st=⟨B,Rw,L⟩) (n:Nat) (B:List (List AV)) (Rw:List RowA) (L:List LoopA) (a0:ByteArray × Vl) (a1:ByteArray × Vl) (r:Int) (h:GA rec n a0 a1=some r) :
  ACalls Tryz.prog w0 146 [.agg (.val (.string a0.1)::(a0.2.cs)),.agg (.val (.string a1.1)::(a1.2.cs))] ⟨B,Rw,L⟩ fun x st=>x = .val (.int .i64 r)∧st=⟨B,Rw,L⟩:=by
 rw [GA] at h
 refine hd [.tmp 4] Tryz.func146 Tryz.ntmps146 fun M0 W0 l g e a k f hs=>?_
 simp only [Au]
 refine rg [2,3] hs ?_
 obtain ⟨i,d,h⟩:=bind_some h
 obtain ⟨j,c,h⟩:=bind_some h
 apply Ah;intro K2 b
 refine dk 13 4 1 [4] hs HH ?_
 refine Ai _ (NP w0 _ _ _ a0.1 a1.1) (hv hs) ?_
 refine nc hs ?_
 refine Ai _ (ih _ _ _ a0.2 a1.2 _ d) (hv hs) ?_
 refine nc hs ?_
 refine Ai _ (PO w0 n _ _ _ ([ER a0.1 a1.1,i]) _ c) (hv hs) ?_
 refine dn hs b ?_
 clear b
 exact rt h hs a f
def Lt (rec:Vl→Vl→Option Int) (n:Nat) (b:Vl) (g:Vl):Option Int :=
 (Es n b.list g.list (fun (h:Vl) (q:Vl)=>rec h q)).bind fun y3 =>
 (Eu n b.fields g.fields (fun (h:ByteArray × Vl) (q:ByteArray × Vl)=>GA rec n h q)).bind fun s =>
 (IF n ([if b.kind<g.kind then -1 else if b.kind=g.kind then 0 else 1,if b.int<g.int then -1 else if b.int=g.int then 0 else 1,if b.scale<g.scale then -1 else if b.scale=g.scale then 0 else 1,ER b.text g.text,y3,s])).bind fun y =>
 some (y)
def F5:Nat→Vl→Vl→Option Int
 | 0,_,_=>none
 | n+1,b,g=>Lt (F5 n) n b g
def OV (w0:World) (F:Vl→Vl→Option Int):Prop:=∀ (B:List (List AV)) (Rw:List RowA) (L:List LoopA) (b:Vl) (g:Vl) (r:Int),F b g=some r→ACalls Tryz.prog w0 83 [.agg (b.cs),.agg (g.cs)] ⟨B,Rw,L⟩ fun x st=>x = .val (.int .i64 r)∧st=⟨B,Rw,L⟩
theorem Us (w0:World) (rec:Vl→Vl→Option Int) (ih:OV w0 rec) (n:Nat):OV w0 (Lt rec n):=by
 intro B Rw L a0 a1 r h
 rw [Lt] at h
 refine hd [.tmp 4] Tryz.func83 Tryz.ntmps83 fun M0 W0 u o q c w s hs=>?_
 simp only [Au]
 refine rg [2,3] hs ?_
 obtain ⟨t,j,h⟩:=bind_some h
 obtain ⟨m,g,h⟩:=bind_some h
 obtain ⟨v,i,h⟩:=bind_some h
 apply Ah;intro K2 e
 refine dk 33 8 1 [4] (al hs) HH ?_
 refine Ai _ (PV w0 _ _ _ a0.kind a1.kind) (hv (al hs)) ?_
 refine nc (al hs) ?_
 refine Ai _ (PV w0 _ _ _ a0.int a1.int) (hv (al hs)) ?_
 refine nc (al hs) ?_
 refine Ai _ (PV w0 _ _ _ a0.scale a1.scale) (hv (al hs)) ?_
 refine nc (al hs) ?_
 refine Ai _ (NP w0 _ _ _ a0.text a1.text) (hv (al hs)) ?_
 refine nc (al hs) ?_
 refine Ai _ (MC w0 n _ _ _ a0.list a1.list 83 [] (fun (b:Vl) (a:Vl)=>rec b a) (fun b a r l p d f k=>by exact ih _ _ _ b a _ l) _ j) (hv (al hs)) ?_
 refine nc (al hs) ?_
 refine Ai _ (MZ w0 n _ _ _ a0.fields a1.fields 146 [] (fun (b:ByteArray × Vl) (a:ByteArray × Vl)=>GA rec n b a) (fun b a r l p d f k=>by exact Uf w0 rec ih n _ _ _ b a _ l) _ g) (hv (al hs)) ?_
 refine nc (al hs) ?_
 refine Ai _ (PO w0 n _ _ _ ([if a0.kind<a1.kind then -1 else if a0.kind=a1.kind then 0 else 1,if a0.int<a1.int then -1 else if a0.int=a1.int then 0 else 1,if a0.scale<a1.scale then -1 else if a0.scale=a1.scale then 0 else 1,ER a0.text a1.text,t,m]) _ i) (hv (al hs)) ?_
 refine dn (al hs) e ?_
 clear e
 exact rt h hs c s
theorem QB (w0:World):∀ n:Nat,OV w0 (F5 n)
 | 0=>fun _ _ _ _ _ _ h=>(nomatch h)
 | n+1=>Us w0 (F5 n) (QB w0 n) n
def Hl (n:Nat) (b:Vl) (g:Vl):Option Bool :=
 (F5 n b g).bind fun h =>
 some (decide (h=0))
theorem Ur (w0:World) (n:Nat) (B:List (List AV)) (Rw:List RowA) (L:List LoopA) (a0:Vl) (a1:Vl) (r:Bool) (h:Hl n a0 a1=some r) :
  ACalls Tryz.prog w0 32 [.agg (a0.cs),.agg (a1.cs)] ⟨B,Rw,L⟩ fun x st=>x = .val (.bool r)∧st=⟨B,Rw,L⟩:=by
 rw [Hl] at h
 refine hd [.tmp 4] Tryz.func32 Tryz.ntmps32 fun M0 W0 i f d a g e hs=>?_
 simp only [Au]
 refine rg [2,3] hs ?_
 obtain ⟨j,c,h⟩:=bind_some h
 refine rc 2 [4] hs ?_;intro K2 b
 refine Ai _ (QB w0 n _ _ _ a0 a1 _ c) (hv hs) ?_
 refine ne hs b ?_
 clear b
 exact rt h hs a e
def Lo (rec:Ty→Ty→Option Bool) (n:Nat) (b:Int × ByteArray × Int × Ty × List Vl) (g:Int × ByteArray × Int × Ty × List Vl):Option Bool :=
 if ((decide (b.1=g.1))&&(Cb b.2.1 g.2.1))&&(decide (b.2.2.1=g.2.2.1)) then
  (rec b.2.2.2.1 g.2.2.2.1).bind fun h =>
  if h then
   (GZ n b.2.2.2.2 g.2.2.2.2 (fun (q:Vl) (y:Vl)=>Hl n q y)).bind fun s =>
   some (s)
  else
   some (false)
 else
  some (false)
theorem Xs (w0:World) (rec:Ty→Ty→Option Bool) (ih:∀ (B:List (List AV)) (Rw:List RowA) (L:List LoopA) (a0:Ty) (a1:Ty) (r:Bool) (h:rec a0 a1=some r),ACalls Tryz.prog w0 163 [.agg (a0.cs),.agg (a1.cs)] ⟨B,Rw,L⟩ fun x st=>x = .val (.bool r)∧st=⟨B,Rw,L⟩) (n:Nat) (B:List (List AV)) (Rw:List RowA) (L:List LoopA) (a0:Int × ByteArray × Int × Ty × List Vl) (a1:Int × ByteArray × Int × Ty × List Vl) (r:Bool) (h:Lo rec n a0 a1=some r) :
  ACalls Tryz.prog w0 207 [.agg (.val (.int .i64 a0.1)::(.val (.string a0.2.1)::(.val (.int .i64 a0.2.2.1)::((a0.2.2.2.1.cs)++([.list (a0.2.2.2.2.map Bo) .none]))))),.agg (.val (.int .i64 a1.1)::(.val (.string a1.2.1)::(.val (.int .i64 a1.2.2.1)::((a1.2.2.2.1.cs)++([.list (a1.2.2.2.2.map Bo) .none])))))] ⟨B,Rw,L⟩ fun x st=>x = .val (.bool r)∧st=⟨B,Rw,L⟩:=by
 rw [Lo] at h
 refine hd [.tmp 4] Tryz.func207 Tryz.ntmps207 fun M0 W0 u p o a t i hs=>?_
 simp only [Au]
 refine rg [2,3] hs ?_
 apply Ah;intro K2 b
 rcases Bool.eq_false_or_eq_true (((decide (a0.1=a1.1))&&(Cb a0.2.1 a1.2.1))&&(decide (a0.2.2.1=a1.2.2.1))) with hf3 | hf3
 ·replace h:=Ba h hf3
  obtain ⟨j,c,h⟩:=bind_some h
  rcases Bool.eq_false_or_eq_true (j) with hf5 | hf5
  ·replace h:=Ba h hf5
   obtain ⟨s,f,h⟩:=bind_some h
   have hs:=Aa hf3 hs
   have hs:=Aa hf5 hs
   refine rk 3 [4] (al hs) ?_
   refine Ai _ (ih _ _ _ a0.2.2.2.1 a1.2.2.2.1 _ c) (hv (al hs)) ?_
   refine nc (al hs) ?_
   refine Ai _ (N9 w0 n _ _ _ a0.2.2.2.2 a1.2.2.2.2 32 [] (fun (d:Vl) (g:Vl)=>Hl n d g) (fun d g r k q e m l=>by exact Ur w0 n _ _ _ d g _ k) _ f) (hv (al hs)) ?_
   refine ne (al hs) b ?_
   clear b
   exact rt h hs a i
  ·replace h:=A9 h hf5
   have hs:=Aa hf3 hs
   have hs:=Aa hf5 hs
   refine rk 3 [4] (al hs) ?_
   refine Ai _ (ih _ _ _ a0.2.2.2.1 a1.2.2.2.1 _ c) (hv (al hs)) ?_
   refine nc (al hs) ?_
   refine AD ?_
   refine ne (al hs) b ?_
   clear b
   exact rt h hs a i
 ·replace h:=A9 h hf3
  have hs:=Aa hf3 hs
  refine rk 3 [4] (al hs) ?_
  refine AD ?_
  refine nc (al hs) ?_
  refine AD ?_
  refine ne (al hs) b ?_
  clear b
  exact rt h hs a i
def G1 (n:Nat)  : Option Bool :=
 some (true)
def EP (n:Nat) (g:List Ty) (a1:List Ty) (y:Ty→Ty→Option Bool):Nat→Int→Option Bool
 | 0,_=>none
 | m+1,b =>
  if decide (b<(g.length:Int)) then
   (B7 g b).bind fun q =>
   (B7 a1 b).bind fun h =>
   (y q h).bind fun s =>
   if !s then
    some (false)
   else
    if BQ (b+1) then
     (EP n g a1 y m) (b+1)
    else none
  else
   G1 n 
def HE (n:Nat) (g:List Ty) (b:List Ty) (h:Ty→Ty→Option Bool):Option Bool :=
 if !(decide ((g.length:Int)=(b.length:Int))) then
  some (false)
 else
  EP n g b h n 0
theorem JL (w0:World) (n:Nat) (B:List (List AV)) (Rw:List RowA) (L:List LoopA) (a0:List Ty) (a1:List Ty) (fa2:FuncId) (ca2:List AV) (a2:Ty→Ty→Option Bool) (ha2:∀ (x0:Ty) (x1:Ty) r,a2 x0 x1=some r→∀ B' rows,B <+: B'→Rw <+: rows→ACalls Tryz.prog w0 fa2 ([.agg (x0.cs),.agg (x1.cs)]++ca2) ⟨B',rows,L⟩ fun v s=>v = .val (.bool r)∧s=⟨B',rows,L⟩) (r:Bool) (h:HE n a0 a1 a2=some r) :
  ACalls Tryz.prog w0 205 [.list (a0.map HF) .none,.list (a1.map HF) .none,.clo fa2 ca2] ⟨B,Rw,L⟩ fun x st=>x = .val (.bool r)∧st=⟨B,Rw,L⟩:=by
 rw [HE] at h
 refine hd [.tmp 6] Tryz.func205 Tryz.ntmps205 fun M0 W0 K q z b Q d hs=>?_
 simp only [Au]
 have c:=CH (Q (.clo fa2 ca2) (by simp))
 refine rg [0,1,2] hs ?_
 apply Ah;intro K2 C
 refine rg [0,1,2,14] hs ?_
 refine AN h hs (fun hs h=>?_) (fun hs h=>?_)
 ·refine rg [6] hs ?_
  exact rt h hs b d
 refine sk [0,1,2] hs C ?_
 clear C
 refine Aw (fun e st=>Ck e st B Rw L [] [] [] (G1 n  = some r)) ?_ ?_
 ·intro K8 F
  refine rg [1,2,15,16,17] hs ?_
  apply Ak
  refine AC (fun m e st=>∃ (a:Int),Ck e st B Rw L [(1,true,.list (a1.map HF) .none),(2,true,.clo fa2 ca2),(15,true,.list (a0.map HF) .none),(16,true,.val (.int .i64 (a0.length:Int))),(17,true,.val (.int .i64 a))] [] [] (EP n a0 a1 a2 m a=some r)) n ⟨0,([]),Rw,ef hs,ef hs,d,h⟩ ?_
  rintro ml10 e st ⟨a,Xl10,Rl10,rfl,rfl,d,h⟩ Ul10 Vl10
  cases ml10 with
  | zero=>cases h
  | succ ml10 =>
  rw [EP] at h
  refine AM K q z rfl b d (Ju c d) (Ju c d) ?_
  refine rg [1,2,15,16,17,18] hs ?_
  apply Ah;intro K12 i
  refine AN h hs (fun hs h=>?_) (fun hs h=>?_)
  rotate_left
  ·refine sx [] hs F ?_
   exact ⟨([]),Rl10,ef hs,ef hs,d,h⟩
  refine sk [1,2,15,16,17] hs i ?_
  clear i
  apply Ah;intro K14 j
  apply Ak
  obtain ⟨t,D,h⟩:=bind_some h
  obtain ⟨J,E,o⟩:=AA D
  have l:=AB (f:=HF) o
  have hs:=Aa l hs
  refine rg [1,2,7,8,15,16,17] hs ?_
  obtain ⟨u,w,h⟩:=bind_some h
  obtain ⟨G,H,k⟩:=AA w
  have p:=AB (f:=HF) k
  have hs:=Aa p hs
  refine rg [1,2,8,9,15,16,17] hs ?_
  obtain ⟨O,y,h⟩:=bind_some h
  refine rc 2 [1,2,15,16,17,30] hs ?_;intro K19 g
  refine F7 _ (ha2 t u _ y _ _ px d.pre) (hv hs) ?_
  refine ne hs g ?_
  clear g
  refine AN h hs (fun hs h=>?_) (fun hs h=>?_)
  ·refine rg [6] hs ?_
   exact rt h hs b d
  refine sk [1,2,15,16,17] hs j ?_
  clear j
  obtain ⟨N,h⟩:=Aj h
  refine rl [1,2,15,16,17] hs (fun e s=>Vl10 ml10 e s (Nat.lt_succ_self _)) ?_
  exact ⟨(a+1),([t.cs,u.cs]),Rl10,ef hs,ef hs,d,h⟩
 ·clear h;rintro e st ⟨Xk7,Rk7,rfl,rfl,d,h⟩
  rw [G1] at h
  refine AM K q z rfl b d (Ju c d) (Ju c d) ?_
  refine rg [6] hs ?_
  exact rt h hs b d
def EU (n:Nat)  : Option Bool :=
 some (true)
def DC (n:Nat) (g:List (Int × ByteArray × Int × Ty × List Vl)) (a1:List (Int × ByteArray × Int × Ty × List Vl)) (y:(Int × ByteArray × Int × Ty × List Vl)→(Int × ByteArray × Int × Ty × List Vl)→Option Bool):Nat→Int→Option Bool
 | 0,_=>none
 | m+1,b =>
  if decide (b<(g.length:Int)) then
   (B7 g b).bind fun q =>
   (B7 a1 b).bind fun h =>
   (y q h).bind fun s =>
   if !s then
    some (false)
   else
    if BQ (b+1) then
     (DC n g a1 y m) (b+1)
    else none
  else
   EU n 
def E9 (n:Nat) (g:List (Int × ByteArray × Int × Ty × List Vl)) (b:List (Int × ByteArray × Int × Ty × List Vl)) (h:(Int × ByteArray × Int × Ty × List Vl)→(Int × ByteArray × Int × Ty × List Vl)→Option Bool):Option Bool :=
 if !(decide ((g.length:Int)=(b.length:Int))) then
  some (false)
 else
  DC n g b h n 0
theorem Ll (w0:World) (n:Nat) (B:List (List AV)) (Rw:List RowA) (L:List LoopA) (a0:List (Int × ByteArray × Int × Ty × List Vl)) (a1:List (Int × ByteArray × Int × Ty × List Vl)) (fa2:FuncId) (ca2:List AV) (a2:(Int × ByteArray × Int × Ty × List Vl)→(Int × ByteArray × Int × Ty × List Vl)→Option Bool) (ha2:∀ (x0:Int × ByteArray × Int × Ty × List Vl) (x1:Int × ByteArray × Int × Ty × List Vl) r,a2 x0 x1=some r→∀ B' rows,B <+: B'→Rw <+: rows→ACalls Tryz.prog w0 fa2 ([.agg (.val (.int .i64 x0.1)::(.val (.string x0.2.1)::(.val (.int .i64 x0.2.2.1)::((x0.2.2.2.1.cs)++([.list (x0.2.2.2.2.map Bo) .none]))))),.agg (.val (.int .i64 x1.1)::(.val (.string x1.2.1)::(.val (.int .i64 x1.2.2.1)::((x1.2.2.2.1.cs)++([.list (x1.2.2.2.2.map Bo) .none])))))]++ca2) ⟨B',rows,L⟩ fun v s=>v = .val (.bool r)∧s=⟨B',rows,L⟩) (r:Bool) (h:E9 n a0 a1 a2=some r) :
  ACalls Tryz.prog w0 206 [.list (a0.map Cm) .none,.list (a1.map Cm) .none,.clo fa2 ca2] ⟨B,Rw,L⟩ fun x st=>x = .val (.bool r)∧st=⟨B,Rw,L⟩:=by
 rw [E9] at h
 refine hd [.tmp 6] Tryz.func206 Tryz.ntmps206 fun M0 W0 K u z b Q d hs=>?_
 simp only [Au]
 have c:=CH (Q (.clo fa2 ca2) (by simp))
 refine rg [0,1,2] hs ?_
 apply Ah;intro K2 C
 refine rg [0,1,2,14] hs ?_
 refine AN h hs (fun hs h=>?_) (fun hs h=>?_)
 ·refine rg [6] hs ?_
  exact rt h hs b d
 refine sk [0,1,2] hs C ?_
 clear C
 refine Aw (fun e st=>Ck e st B Rw L [] [] [] (EU n  = some r)) ?_ ?_
 ·intro K8 F
  refine rg [1,2,15,16,17] hs ?_
  apply Ak
  refine AC (fun m e st=>∃ (a:Int),Ck e st B Rw L [(1,true,.list (a1.map Cm) .none),(2,true,.clo fa2 ca2),(15,true,.list (a0.map Cm) .none),(16,true,.val (.int .i64 (a0.length:Int))),(17,true,.val (.int .i64 a))] [] [] (DC n a0 a1 a2 m a=some r)) n ⟨0,([]),Rw,ef hs,ef hs,d,h⟩ ?_
  rintro ml10 e st ⟨a,Xl10,Rl10,rfl,rfl,d,h⟩ Ul10 Vl10
  cases ml10 with
  | zero=>cases h
  | succ ml10 =>
  rw [DC] at h
  refine AM K u z rfl b d (Ju c d) (Ju c d) ?_
  refine rg [1,2,15,16,17,18] hs ?_
  apply Ah;intro K12 k
  refine AN h hs (fun hs h=>?_) (fun hs h=>?_)
  rotate_left
  ·refine sx [] hs F ?_
   exact ⟨([]),Rl10,ef hs,ef hs,d,h⟩
  refine sk [1,2,15,16,17] hs k ?_
  clear k
  apply Ah;intro K14 l
  apply Ak
  obtain ⟨g,D,h⟩:=bind_some h
  obtain ⟨J,E,q⟩:=AA D
  have p:=AB (f:=Cm) q
  have hs:=Aa p hs
  refine rg [1,2,7,8,15,16,17] hs ?_
  obtain ⟨i,w,h⟩:=bind_some h
  obtain ⟨G,H,o⟩:=AA w
  have t:=AB (f:=Cm) o
  have hs:=Aa t hs
  refine rg [1,2,8,9,15,16,17] hs ?_
  obtain ⟨O,y,h⟩:=bind_some h
  refine rc 2 [1,2,15,16,17,30] hs ?_;intro K19 j
  refine F7 _ (ha2 g i _ y _ _ px d.pre) (hv hs) ?_
  refine ne hs j ?_
  clear j
  refine AN h hs (fun hs h=>?_) (fun hs h=>?_)
  ·refine rg [6] hs ?_
   exact rt h hs b d
  refine sk [1,2,15,16,17] hs l ?_
  clear l
  obtain ⟨N,h⟩:=Aj h
  refine rl [1,2,15,16,17] hs (fun e s=>Vl10 ml10 e s (Nat.lt_succ_self _)) ?_
  exact ⟨(a+1),([.val (.int .i64 g.1)::(.val (.string g.2.1)::(.val (.int .i64 g.2.2.1)::((g.2.2.2.1.cs)++([.list (g.2.2.2.2.map Bo) .none])))),.val (.int .i64 i.1)::(.val (.string i.2.1)::(.val (.int .i64 i.2.2.1)::((i.2.2.2.1.cs)++([.list (i.2.2.2.2.map Bo) .none]))))]),Rl10,ef hs,ef hs,d,h⟩
 ·clear h;rintro e st ⟨Xk7,Rk7,rfl,rfl,d,h⟩
  rw [EU] at h
  refine AM K u z rfl b d (Ju c d) (Ju c d) ?_
  refine rg [6] hs ?_
  exact rt h hs b d
def HW (n:Nat)  : Option Bool :=
 some (true)
def Fj (n:Nat) (g:List ByteArray) (s:List ByteArray):Nat→Int→Option Bool
 | 0,_=>none
 | m+1,b =>
  if decide (b<(g.length:Int)) then
   (B7 g b).bind fun q =>
   (B7 s b).bind fun h =>
   if !(Cb q h) then
    some (false)
   else
    if BQ (b+1) then
     (Fj n g s m) (b+1)
    else none
  else
   HW n 
def IA (n:Nat) (b:List ByteArray) (g:List ByteArray):Option Bool :=
 if !(decide ((b.length:Int)=(g.length:Int))) then
  some (false)
 else
  Fj n b g n 0
theorem Ig (w0:World) (n:Nat) (B:List (List AV)) (Rw:List RowA) (L:List LoopA) (a0:List ByteArray) (a1:List ByteArray) (r:Bool) (h:IA n a0 a1=some r) :
  ACalls Tryz.prog w0 204 [.list (a0.map Lq) .none,.list (a1.map Lq) .none] ⟨B,Rw,L⟩ fun x st=>x = .val (.bool r)∧st=⟨B,Rw,L⟩:=by
 rw [IA] at h
 refine hd [.tmp 4] Tryz.func204 Tryz.ntmps204 fun M0 W0 D o t b H c hs=>?_
 simp only [Au]
 refine rg [0,1] hs ?_
 apply Ah;intro K2 u
 refine rg [0,1,10] hs ?_
 refine AN h hs (fun hs h=>?_) (fun hs h=>?_)
 ·refine rg [4] hs ?_
  exact rt h hs b c
 refine sk [0,1] hs u ?_
 clear u
 refine Aw (fun e st=>Ck e st B Rw L [] [] [] (HW n  = some r)) ?_ ?_
 ·intro K8 w
  refine rg [0,1,12,13] hs ?_
  apply Ak
  refine AC (fun m e st=>∃ (a:Int),Ck e st B Rw L [(0,true,.list (a0.map Lq) .none),(1,true,.list (a1.map Lq) .none),(12,true,.val (.int .i64 (a0.length:Int))),(13,true,.val (.int .i64 a))] [] [] (Fj n a0 a1 m a=some r)) n ⟨0,([]),Rw,ef hs,ef hs,c,h⟩ ?_
  rintro ml10 e st ⟨a,Xl10,Rl10,rfl,rfl,c,h⟩ Ul10 Vl10
  cases ml10 with
  | zero=>cases h
  | succ ml10 =>
  rw [Fj] at h
  refine td D o t b c ?_
  refine rg [0,1,12,13,14] hs ?_
  apply Ah;intro K12 d
  refine AN h hs (fun hs h=>?_) (fun hs h=>?_)
  rotate_left
  ·refine sx [] hs w ?_
   exact ⟨([]),Rl10,ef hs,ef hs,c,h⟩
  refine sk [0,1,12,13] hs d ?_
  clear d
  apply Ah;intro K14 g
  apply Ak
  refine rg [0,1,5,12,13] hs ?_
  obtain ⟨G,q,h⟩:=bind_some h
  obtain ⟨C,v,j⟩:=AA q
  have i:=AB (f:=Lq) j
  obtain ⟨F,p,h⟩:=bind_some h
  obtain ⟨y,z,k⟩:=AA p
  have l:=AB (f:=Lq) k
  have hs:=Aa i hs
  have hs:=Aa l hs
  refine dg 9 1 1 [0,1,12,13,24] hs HH ?_
  refine AN h hs (fun hs h=>?_) (fun hs h=>?_)
  ·refine rg [4] hs ?_
   exact rt h hs b c
  refine sk [0,1,12,13] hs g ?_
  clear g
  obtain ⟨E,h⟩:=Aj h
  refine rl [0,1,12,13] hs (fun e s=>Vl10 ml10 e s (Nat.lt_succ_self _)) ?_
  exact ⟨(a+1),([]),Rl10,ef hs,ef hs,c,h⟩
 ·clear h;rintro e st ⟨Xk7,Rk7,rfl,rfl,c,h⟩
  rw [HW] at h
  refine td D o t b c ?_
  refine rg [4] hs ?_
  exact rt h hs b c
def RQ (rec:Ty→Ty→Option Bool) (n:Nat) (b:Ty) (g:Ty):Option Bool :=
 if (((decide (b.kind=g.kind))&&(decide (b.min=g.min)))&&(decide (b.max=g.max)))&&(decide (b.scale=g.scale)) then
  (IA n b.words g.words).bind fun s =>
  if s then
   (HE n b.elem g.elem (fun (h:Ty) (q:Ty)=>rec h q)).bind fun y6 =>
   if y6 then
    (E9 n b.fields g.fields (fun (h:Int × ByteArray × Int × Ty × List Vl) (q:Int × ByteArray × Int × Ty × List Vl)=>Lo rec n h q)).bind fun y =>
    some (y)
   else
    some (false)
  else
   some (false)
 else
  some (false)
def Px:Nat→Ty→Ty→Option Bool
 | 0,_,_=>none
 | n+1,b,g=>RQ (Px n) n b g
def RP (w0:World) (F:Ty→Ty→Option Bool):Prop:=∀ (B:List (List AV)) (Rw:List RowA) (L:List LoopA) (b:Ty) (g:Ty) (r:Bool),F b g=some r→ACalls Tryz.prog w0 163 [.agg (b.cs),.agg (g.cs)] ⟨B,Rw,L⟩ fun x st=>x = .val (.bool r)∧st=⟨B,Rw,L⟩
theorem XC (w0:World) (rec:Ty→Ty→Option Bool) (ih:RP w0 rec) (n:Nat):RP w0 (RQ rec n):=by
 intro B Rw L a0 a1 r h
 rw [RQ] at h
 refine hd [.tmp 4] Tryz.func163 Tryz.ntmps163 fun M0 W0 u s t a v l hs=>?_
 simp only [Au]
 refine rg [2,3] hs ?_
 apply Ah;intro K2 b
 rcases Bool.eq_false_or_eq_true ((((decide (a0.kind=a1.kind))&&(decide (a0.min=a1.min)))&&(decide (a0.max=a1.max)))&&(decide (a0.scale=a1.scale))) with hf3 | hf3
 ·replace h:=Ba h hf3
  obtain ⟨p,f,h⟩:=bind_some h
  rcases Bool.eq_false_or_eq_true (p) with hf5 | hf5
  ·replace h:=Ba h hf5
   obtain ⟨q,j,h⟩:=bind_some h
   rcases Bool.eq_false_or_eq_true (q) with hf7 | hf7
   ·replace h:=Ba h hf7
    obtain ⟨w,m,h⟩:=bind_some h
    have hs:=Aa hf3 hs
    have hs:=Aa hf5 hs
    have hs:=Aa hf7 hs
    refine rk 4 [4] (al hs) ?_
    refine Ai _ (Ig w0 n _ _ _ a0.words a1.words _ f) (hv (al hs)) ?_
    refine nc (al hs) ?_
    refine Ai _ (JL w0 n _ _ _ a0.elem a1.elem 163 [] (fun (d:Ty) (c:Ty)=>rec d c) (fun d c r k o e g i=>by exact ih _ _ _ d c _ k) _ j) (hv (al hs)) ?_
    refine nc (al hs) ?_
    refine Ai _ (Ll w0 n _ _ _ a0.fields a1.fields 207 [] (fun (d:Int × ByteArray × Int × Ty × List Vl) (c:Int × ByteArray × Int × Ty × List Vl)=>Lo rec n d c) (fun d c r k o e g i=>by exact Xs w0 rec ih n _ _ _ d c _ k) _ m) (hv (al hs)) ?_
    refine ne (al hs) b ?_
    clear b
    exact rt h hs a l
   ·replace h:=A9 h hf7
    have hs:=Aa hf3 hs
    have hs:=Aa hf5 hs
    have hs:=Aa hf7 hs
    refine rk 4 [4] (al hs) ?_
    refine Ai _ (Ig w0 n _ _ _ a0.words a1.words _ f) (hv (al hs)) ?_
    refine nc (al hs) ?_
    refine Ai _ (JL w0 n _ _ _ a0.elem a1.elem 163 [] (fun (d:Ty) (c:Ty)=>rec d c) (fun d c r k o e g i=>by exact ih _ _ _ d c _ k) _ j) (hv (al hs)) ?_
    refine nc (al hs) ?_
    refine AD ?_
    refine ne (al hs) b ?_
    clear b
    exact rt h hs a l
  ·replace h:=A9 h hf5
   have hs:=Aa hf3 hs
   have hs:=Aa hf5 hs
   refine rk 4 [4] (al hs) ?_
   refine Ai _ (Ig w0 n _ _ _ a0.words a1.words _ f) (hv (al hs)) ?_
   refine nc (al hs) ?_
   refine AD ?_
   refine nc (al hs) ?_
   refine AD ?_
   refine ne (al hs) b ?_
   clear b
   exact rt h hs a l
 ·replace h:=A9 h hf3
  have hs:=Aa hf3 hs
  refine rk 4 [4] (al hs) ?_
  refine AD ?_
  refine nc (al hs) ?_
  refine AD ?_
  refine nc (al hs) ?_
  refine AD ?_
  refine ne (al hs) b ?_
  clear b
  exact rt h hs a l
theorem Vh (w0:World):∀ n:Nat,RP w0 (Px n)
 | 0=>fun _ _ _ _ _ _ h=>(nomatch h)
 | n+1=>XC w0 (Px n) (Vh w0 n) n
theorem ZdA {a b:Nat}:decide ((a:Int)≤(b:Int))=decide (a≤b):=decide_eq_decide.2 ⟨fun h=>by omega,fun h=>by omega⟩
theorem UF (n:Nat) (a b:List (Vl)) (f:Vl→Vl→Option Int) (hl:a.length≤1000000000)
  (hr:∀ p∈a,∀ q∈b,∃ c,f p q=some c∧(c=0↔p=q)):∀ (k m i:Nat),i+k=a.length→k<m→∃ c,BS n a b f m i=some c∧(c=0↔a.drop i=b.drop i)
 | k,0,i,_,h=>absurd h (Nat.not_lt_zero _)
 | 0,m+1,i,hi,_=>by
  rw [BS,As,Ac (by omega)]
  simp only [Bool.false_eq_true,if_false]
  rw [Ee,As,List.drop_eq_nil_of_le (show a.length≤i by omega)]
  by_cases h:a.length<b.length
  ·rw [Ad h]
   simp only [if_true]
   exact ⟨-1,rfl,⟨fun h=>absurd h (by decide),fun e=>by have:=List.drop_eq_nil_iff.1 e.symm;omega⟩⟩
  ·rw [Ac h]
   simp only [Bool.false_eq_true,if_false]
   exact ⟨0,rfl,⟨fun _=>(List.drop_eq_nil_of_le (by omega)).symm,fun _=>rfl⟩⟩
 | k+1,m+1,i,hi,hm=>by
  have g:i<a.length:=by omega
  rw [BS,As,Ad g]
  simp only [if_true,Az g,Ab,ZdA]
  by_cases d:i<b.length
  ·rw [Ac (show ¬ b.length≤i by omega)]
   simp only [Bool.false_eq_true,if_false,Az d,Ab]
   obtain ⟨c,e,j⟩:=hr _ (List.getElem_mem g) _ (List.getElem_mem d)
   rw [e,SX _ _ i g d]
   simp only [Ab]
   by_cases h0:c=0
   ·rw [Ad h0]
    simp only [Bool.not_true,Bool.false_eq_true,if_false]
    rw [Ae (Av (by omega))]
    obtain ⟨l,o,d⟩:=UF n a b f hl hr k m (i+1) (by omega) (by omega)
    exact ⟨l,o,d.trans ⟨fun h=>⟨j.1 h0,h⟩,fun h=>h.2⟩⟩
   ·rw [Ac h0]
    simp only [Bool.not_false,if_true]
    exact ⟨c,rfl,⟨fun h=>absurd h h0,fun h=>absurd (j.2 h.1) h0⟩⟩
  ·rw [Ad (show b.length≤i by omega)]
   simp only [if_true]
   refine ⟨1,rfl,⟨fun h=>absurd h (by decide),fun e=>?_⟩⟩
   rw [List.drop_eq_nil_of_le (show b.length≤i by omega)] at e
   have:=List.drop_eq_nil_iff.1 e
   omega
theorem Zac (n:Nat) (a b:List (Vl)) (f:Vl→Vl→Option Int) (hl:a.length≤1000000000) (hn:a.length<n)
  (hr:∀ p∈a,∀ q∈b,∃ c,f p q=some c∧(c=0↔p=q)):∃ c,Es n a b f=some c∧(c=0↔a=b) :=
 UF n a b f hl hr a.length n 0 (by omega) hn
theorem U0 (n:Nat) (a b:List (ByteArray × Vl)) (f:ByteArray × Vl→ByteArray × Vl→Option Int) (hl:a.length≤1000000000)
  (hr:∀ p∈a,∀ q∈b,∃ c,f p q=some c∧(c=0↔p=q)):∀ (k m i:Nat),i+k=a.length→k<m→∃ c,BR n a b f m i=some c∧(c=0↔a.drop i=b.drop i)
 | k,0,i,_,h=>absurd h (Nat.not_lt_zero _)
 | 0,m+1,i,hi,_=>by
  rw [BR,As,Ac (by omega)]
  simp only [Bool.false_eq_true,if_false]
  rw [Eg,As,List.drop_eq_nil_of_le (show a.length≤i by omega)]
  by_cases h:a.length<b.length
  ·rw [Ad h]
   simp only [if_true]
   exact ⟨-1,rfl,⟨fun h=>absurd h (by decide),fun e=>by have:=List.drop_eq_nil_iff.1 e.symm;omega⟩⟩
  ·rw [Ac h]
   simp only [Bool.false_eq_true,if_false]
   exact ⟨0,rfl,⟨fun _=>(List.drop_eq_nil_of_le (by omega)).symm,fun _=>rfl⟩⟩
 | k+1,m+1,i,hi,hm=>by
  have g:i<a.length:=by omega
  rw [BR,As,Ad g]
  simp only [if_true,Az g,Ab,ZdA]
  by_cases d:i<b.length
  ·rw [Ac (show ¬ b.length≤i by omega)]
   simp only [Bool.false_eq_true,if_false,Az d,Ab]
   obtain ⟨c,e,j⟩:=hr _ (List.getElem_mem g) _ (List.getElem_mem d)
   rw [e,SX _ _ i g d]
   simp only [Ab]
   by_cases h0:c=0
   ·rw [Ad h0]
    simp only [Bool.not_true,Bool.false_eq_true,if_false]
    rw [Ae (Av (by omega))]
    obtain ⟨l,o,d⟩:=U0 n a b f hl hr k m (i+1) (by omega) (by omega)
    exact ⟨l,o,d.trans ⟨fun h=>⟨j.1 h0,h⟩,fun h=>h.2⟩⟩
   ·rw [Ac h0]
    simp only [Bool.not_false,if_true]
    exact ⟨c,rfl,⟨fun h=>absurd h h0,fun h=>absurd (j.2 h.1) h0⟩⟩
  ·rw [Ad (show b.length≤i by omega)]
   simp only [if_true]
   refine ⟨1,rfl,⟨fun h=>absurd h (by decide),fun e=>?_⟩⟩
   rw [List.drop_eq_nil_of_le (show b.length≤i by omega)] at e
   have:=List.drop_eq_nil_iff.1 e
   omega
theorem ZaF (n:Nat) (a b:List (ByteArray × Vl)) (f:ByteArray × Vl→ByteArray × Vl→Option Int) (hl:a.length≤1000000000) (hn:a.length<n)
  (hr:∀ p∈a,∀ q∈b,∃ c,f p q=some c∧(c=0↔p=q)):∃ c,Eu n a b f=some c∧(c=0↔a=b) :=
 U0 n a b f hl hr a.length n 0 (by omega) hn
theorem Zgu (n:Nat) (l:List Int) (hl:l.length≤1000000000):∀ (k m i:Nat),i+k=l.length→k<m→∃ c,Ff n l m i=some c∧(c=0↔∀ x∈l.drop i,x=0)
 | k,0,i,_,h=>absurd h (Nat.not_lt_zero _)
 | 0,m+1,i,hi,_=>by
  rw [Ff,As,Ac (by omega)]
  simp only [Bool.false_eq_true,if_false]
  exact ⟨0,rfl,by rw [List.drop_eq_nil_of_le (by omega)];simp⟩
 | k+1,m+1,i,hi,hm=>by
  have a:i<l.length:=by omega
  rw [Ff,As,Ad a]
  simp only [if_true,Az a,Ab]
  rw [List.drop_eq_getElem_cons a]
  by_cases h0:l[i]=0
  ·rw [Ad h0]
   simp only [Bool.not_true,Bool.false_eq_true,if_false]
   rw [Ae (Av (by omega))]
   obtain ⟨b,d,e⟩:=Zgu n l hl k m (i+1) (by omega) (by omega)
   exact ⟨b,d,e.trans ⟨fun h x hx=>by rcases List.mem_cons.1 hx with rfl | hx;exact h0;exact h x hx,fun h x hx=>h x (List.mem_cons_of_mem _ hx)⟩⟩
  ·rw [Ac h0]
   simp only [Bool.not_false,if_true]
   exact ⟨_,rfl,⟨fun h=>absurd h h0,fun h=>absurd (h _ (List.mem_cons_self ..)) h0⟩⟩
theorem Zgw (n:Nat) (l:List Int) (hl:l.length<n) (h2:l.length≤1000000000):∃ c,IF n l=some c∧(c=0↔∀ x∈l,x=0):=Zgu n l h2 l.length n 0 (by omega) hl
theorem ZbM (a b:Int):(if a<b then (-1:Int) else if a=b then 0 else 1)=0↔a=b:=by
 by_cases h1:a<b
 ·rw [Ae h1];omega
 ·rw [Af h1]
  by_cases h2:a=b
  ·simp [h2]
  ·simp [h2]
theorem Vl.lens' (v:Vl):v.list.length<v.size∧v.fields.length<v.size:=by have:=Ny v.list;have:=NW v.fields;have:=v.size_eq;omega
theorem Ox:∀ (n:Nat) (a b:Vl),a.size+10≤n→a.size≤1000000000→∃ c,F5 n a b=some c∧(c=0↔a=b)
 | 0,a,b,h,_=>by omega
 | n+1,a,b,h,hs=>by
  have w:=a.lens'
  rw [F5,Lt]
  obtain ⟨v,o,s⟩:=Zac n a.list b.list (fun x y=>F5 n x y) (by omega) (by omega) (fun p d q _=>Ox n p q (by have:=a.list_size p d;omega) (by have:=a.list_size p d;omega))
  obtain ⟨g,i,j⟩:=ZaF n a.fields b.fields (fun x y=>GA (F5 n) n x y) (by omega) (by omega) (fun p d q _=>by
   obtain ⟨c,e,f⟩:=Ox n p.2 q.2 (by have:=a.field_size p d;omega) (by have:=a.field_size p d;omega)
   obtain ⟨g,i,j⟩:=Zgw n [ER p.1 q.1,c] (by simp;omega) (by simp)
   refine ⟨g,by rw [GA,e,Ab,i];rfl,j.trans ?_⟩
   simp only [List.mem_cons,List.not_mem_nil,or_false,forall_eq_or_imp,forall_eq,KD,f]
   exact ⟨fun h=>Prod.ext h.1 h.2,fun h=>by rw [h];exact ⟨rfl,rfl⟩⟩)
  rw [o,Ab,i,Ab]
  obtain ⟨c,e,f⟩:=Zgw n [if a.kind<b.kind then -1 else if a.kind=b.kind then 0 else 1,if a.int<b.int then -1 else if a.int=b.int then 0 else 1,if a.scale<b.scale then -1 else if a.scale=b.scale then 0 else 1,ER a.text b.text,v,g] (by simp;omega) (by simp)
  refine ⟨c,by rw [e];rfl,f.trans ?_⟩
  simp only [List.mem_cons,List.not_mem_nil,or_false,forall_eq_or_imp,forall_eq,KD,ZbM,s,j]
  exact ⟨fun ⟨t,u,k,r,m,l⟩=>Vl.ext' t u k r m l,fun h=>by rw [h];exact ⟨rfl,rfl,rfl,rfl,rfl,rfl⟩⟩
theorem Zb5 (n:Nat) (a b:Vl) (h:a.size+10≤n) (hs:a.size≤1000000000):∃ c,Hl n a b=some c∧(c=true↔a=b):=by
 obtain ⟨c,e,d⟩:=Ox n a b h hs
 exact ⟨decide (c=0),by rw [Hl,e];rfl,by rw [decide_eq_true_eq];exact d⟩
theorem Zdj {t:Ty} {v:Vl} (k:1≤t.kind∧t.kind≤10) (hk:v.kind=t.kind) (hf:DI v=true):¬ ((t.kind<1∨10<t.kind)∨v.kind≠t.kind∨DI v=false):=by
 rintro (q | q | q)
 ·omega
 ·exact q hk
 ·rw [hf] at q;cases q
theorem P8 {v:Vl} (hs:SS v.fields) {q:ByteArray × Vl} (hq:q∈v.fields):CG v q.1=some q.2:=by
 rw [CG]
 cases c:v.fields.find? (fun x=>Cb x.1 q.1) with
 | none =>
  rw [List.find?_eq_none] at c
  exact absurd (ME q.1) (c q hq)
 | some z =>
  have e:=List.mem_of_find?_eq_some c
  have b:z.1=q.1:=(Ei _ _).1 (List.find?_some (p:=fun x:ByteArray × Vl=>Cb x.1 q.1) c)
  have:z=q:=by
   obtain ⟨i,d,rfl⟩:=List.mem_iff_getElem.1 e
   obtain ⟨j,a,rfl⟩:=List.mem_iff_getElem.1 hq
   rcases Nat.lt_trichotomy i j with w | w | w
   ·have:=List.pairwise_iff_getElem.1 hs i j d a w
    rw [b,I0] at this;omega
   ·subst w;rfl
   ·have:=List.pairwise_iff_getElem.1 hs j i a d w
    rw [b,I0] at this;omega
  rw [this];rfl
def Jr (rec:Ty→Ty→Option Bool) (n:Nat) (q:Ty) (b:Int × ByteArray × Int × Ty × List Vl):Option Bool :=
 (C4 n q.fields b.1).bind fun g =>
 if !g.2 then
  some (!(decide (b.2.2.1=1)))
 else
  (rec g.1.2.2.2.1 b.2.2.2.1).bind fun h =>
  some (h&&(!((decide (b.2.2.1=1))&&(decide (g.1.2.2.1=2)))))
theorem T8 (w0:World) (rec:Ty→Ty→Option Bool) (ih:∀ (B:List (List AV)) (Rw:List RowA) (L:List LoopA) (a0:Ty) (a1:Ty) (r:Bool) (h:rec a0 a1=some r),ACalls Tryz.prog w0 90 [.agg (a0.cs),.agg (a1.cs)] ⟨B,Rw,L⟩ fun x st=>x = .val (.bool r)∧st=⟨B,Rw,L⟩) (n:Nat) (B:List (List AV)) (Rw:List RowA) (L:List LoopA) (a0:Ty) (a1:Int × ByteArray × Int × Ty × List Vl) (r:Bool) (h:Jr rec n a0 a1=some r) :
  ACalls Tryz.prog w0 152 [.agg (a0.cs),.agg (.val (.int .i64 a1.1)::(.val (.string a1.2.1)::(.val (.int .i64 a1.2.2.1)::((a1.2.2.2.1.cs)++([.list (a1.2.2.2.2.map Bo) .none])))))] ⟨B,Rw,L⟩ fun x st=>x = .val (.bool r)∧st=⟨B,Rw,L⟩:=by
 rw [Jr] at h
 refine hd [.tmp 4] Tryz.func152 Tryz.ntmps152 fun M0 W0 o j i a l g hs=>?_
 simp only [Au]
 refine rg [2,3] hs ?_
 obtain ⟨k,f,h⟩:=bind_some h
 refine rc 2 [3,5,6] hs ?_;intro K2 c
 refine Ai _ (EJ w0 n _ _ _ a0.fields a1.1 _ f) (hv hs) ?_
 refine ne hs c ?_
 clear c
 apply Ah;intro K4 b
 refine rg [3,5,16] hs ?_
 refine AN h hs (fun hs h=>?_) (fun hs h=>?_)
 ·refine rg [4] hs ?_
  exact rt h hs a g
 refine sk [3,5] hs b ?_
 clear b
 obtain ⟨m,e,h⟩:=bind_some h
 refine rc 2 [4] hs ?_;intro K8 d
 refine Ai _ (ih _ _ _ k.1.2.2.2.1 a1.2.2.2.1 _ e) (hv hs) ?_
 refine ne hs d ?_
 clear d
 exact rt h hs a g
def CY (rec:Ty→Ty→Option Bool) (n:Nat) (b:Int × ByteArray × Int × Ty × List Vl) (g:Ty):Option Bool :=
 (Jr rec n g b).bind fun h =>
 some (!h)
theorem NV (w0:World) (rec:Ty→Ty→Option Bool) (ih:∀ (B:List (List AV)) (Rw:List RowA) (L:List LoopA) (a0:Ty) (a1:Ty) (r:Bool) (h:rec a0 a1=some r),ACalls Tryz.prog w0 90 [.agg (a0.cs),.agg (a1.cs)] ⟨B,Rw,L⟩ fun x st=>x = .val (.bool r)∧st=⟨B,Rw,L⟩) (n:Nat) (B:List (List AV)) (Rw:List RowA) (L:List LoopA) (a0:Int × ByteArray × Int × Ty × List Vl) (la1:Nat) (a1:Ty) (hla1:B[la1]? = some (a1.cs)) (r:Bool) (h:CY rec n a0 a1=some r) :
  ACalls Tryz.prog w0 151 [.agg (.val (.int .i64 a0.1)::(.val (.string a0.2.1)::(.val (.int .i64 a0.2.2.1)::((a0.2.2.2.1.cs)++([.list (a0.2.2.2.2.map Bo) .none]))))),.box la1 0] ⟨B,Rw,L⟩ fun x st=>x = .val (.bool r)∧st=⟨B,Rw,L⟩:=by
 rw [CY] at h
 refine hd [.tmp 3] Tryz.func151 Tryz.ntmps151 fun M0 W0 j g e a i f hs=>?_
 simp only [Au]
 have c:=(Ag.1 hla1).1
 have hs:=Aa (An hla1) hs
 refine rg [1,2] hs ?_
 obtain ⟨k,d,h⟩:=bind_some h
 refine rc 2 [3] hs ?_;intro K2 b
 refine Ai _ (T8 w0 rec ih n _ _ _ a1 a0 _ d) (hv hs) ?_
 refine ne hs b ?_
 clear b
 exact rt h hs a f
def IM (rec:Ty→Ty→Option Bool) (n:Nat) (b:Int × ByteArray × Int × Ty × List Vl) (q:Ty):Option Bool :=
 (C4 n q.fields b.1).bind fun g =>
 if g.2 then
  (rec b.2.2.2.1 g.1.2.2.2.1).bind fun h =>
  some (h)
 else
  some (false)
theorem To (w0:World) (rec:Ty→Ty→Option Bool) (ih:∀ (B:List (List AV)) (Rw:List RowA) (L:List LoopA) (a0:Ty) (a1:Ty) (r:Bool) (h:rec a0 a1=some r),ACalls Tryz.prog w0 90 [.agg (a0.cs),.agg (a1.cs)] ⟨B,Rw,L⟩ fun x st=>x = .val (.bool r)∧st=⟨B,Rw,L⟩) (n:Nat) (B:List (List AV)) (Rw:List RowA) (L:List LoopA) (a0:Int × ByteArray × Int × Ty × List Vl) (a1:Ty) (r:Bool) (h:IM rec n a0 a1=some r) :
  ACalls Tryz.prog w0 154 [.agg (.val (.int .i64 a0.1)::(.val (.string a0.2.1)::(.val (.int .i64 a0.2.2.1)::((a0.2.2.2.1.cs)++([.list (a0.2.2.2.2.map Bo) .none]))))),.agg (a1.cs)] ⟨B,Rw,L⟩ fun x st=>x = .val (.bool r)∧st=⟨B,Rw,L⟩:=by
 rw [IM] at h
 refine hd [.tmp 4] Tryz.func154 Tryz.ntmps154 fun M0 W0 m j i a l f hs=>?_
 simp only [Au]
 refine rg [2,3] hs ?_
 obtain ⟨g,e,h⟩:=bind_some h
 refine rc 2 [2,5,6] hs ?_;intro K2 c
 refine Ai _ (EJ w0 n _ _ _ a1.fields a0.1 _ e) (hv hs) ?_
 refine ne hs c ?_
 clear c
 apply Ah;intro K4 b
 rcases Bool.eq_false_or_eq_true (g.2) with hf5 | hf5
 ·replace h:=Ba h hf5
  obtain ⟨k,d,h⟩:=bind_some h
  have hs:=Aa hf5 hs
  refine rk 2 [4] hs ?_
  refine Ai _ (ih _ _ _ a0.2.2.2.1 g.1.2.2.2.1 _ d) (hv hs) ?_
  refine ne hs b ?_
  clear b
  exact rt h hs a f
 ·replace h:=A9 h hf5
  have hs:=Aa hf5 hs
  refine rk 2 [4] hs ?_
  refine AD ?_
  refine ne hs b ?_
  clear b
  exact rt h hs a f
def C0 (rec:Ty→Ty→Option Bool) (n:Nat) (b:Int × ByteArray × Int × Ty × List Vl) (g:Ty):Option Bool :=
 (IM rec n b g).bind fun h =>
 some (!h)
theorem NU (w0:World) (rec:Ty→Ty→Option Bool) (ih:∀ (B:List (List AV)) (Rw:List RowA) (L:List LoopA) (a0:Ty) (a1:Ty) (r:Bool) (h:rec a0 a1=some r),ACalls Tryz.prog w0 90 [.agg (a0.cs),.agg (a1.cs)] ⟨B,Rw,L⟩ fun x st=>x = .val (.bool r)∧st=⟨B,Rw,L⟩) (n:Nat) (B:List (List AV)) (Rw:List RowA) (L:List LoopA) (a0:Int × ByteArray × Int × Ty × List Vl) (la1:Nat) (a1:Ty) (hla1:B[la1]? = some (a1.cs)) (r:Bool) (h:C0 rec n a0 a1=some r) :
  ACalls Tryz.prog w0 153 [.agg (.val (.int .i64 a0.1)::(.val (.string a0.2.1)::(.val (.int .i64 a0.2.2.1)::((a0.2.2.2.1.cs)++([.list (a0.2.2.2.2.map Bo) .none]))))),.box la1 0] ⟨B,Rw,L⟩ fun x st=>x = .val (.bool r)∧st=⟨B,Rw,L⟩:=by
 rw [C0] at h
 refine hd [.tmp 3] Tryz.func153 Tryz.ntmps153 fun M0 W0 j g e a i f hs=>?_
 simp only [Au]
 have c:=(Ag.1 hla1).1
 have hs:=Aa (An hla1) hs
 refine rg [1,2] hs ?_
 obtain ⟨k,d,h⟩:=bind_some h
 refine rc 2 [3] hs ?_;intro K2 b
 refine Ai _ (To w0 rec ih n _ _ _ a0 a1 _ d) (hv hs) ?_
 refine ne hs b ?_
 clear b
 exact rt h hs a f
def Fq (n:Nat) (b:Ty) (g:Ty):Option Bool :=
 (Dx n b.min b.scale g.scale).bind fun q =>
 (Dx n b.max b.scale g.scale).bind fun h =>
 some ((((q.2&&h.2)&&(Bj q.1 g))&&(Bj h.1 g))&&((decide (b.scale≤g.scale))||(decide (b.min=b.max))))
theorem Q4 (w0:World) (n:Nat) (B:List (List AV)) (Rw:List RowA) (L:List LoopA) (a0:Ty) (a1:Ty) (r:Bool) (h:Fq n a0 a1=some r) :
  ACalls Tryz.prog w0 147 [.agg (a0.cs),.agg (a1.cs)] ⟨B,Rw,L⟩ fun x st=>x = .val (.bool r)∧st=⟨B,Rw,L⟩:=by
 rw [Fq] at h
 refine hd [.tmp 4] Tryz.func147 Tryz.ntmps147 fun M0 W0 o k i a m j hs=>?_
 simp only [Au]
 refine rg [2,3] hs ?_
 obtain ⟨l,f,h⟩:=bind_some h
 refine rc 2 [2,3,5,6] hs ?_;intro K2 d
 refine Ai _ (IH w0 n _ _ _ a0.min a0.scale a1.scale _ f) (hv hs) ?_
 refine ne hs d ?_
 clear d
 obtain ⟨g,e,h⟩:=bind_some h
 refine rc 2 [2,3,5,6,7,8] hs ?_;intro K4 b
 refine Ai _ (IH w0 n _ _ _ a0.max a0.scale a1.scale _ e) (hv hs) ?_
 refine ne hs b ?_
 clear b
 refine rc 3 [4] hs ?_;intro K6 c
 refine H5 _ (fun _=>Dl w0 _ _ _ l.1 a1) (hv hs) ?_
 refine nc hs ?_
 refine H5 _ (fun _=>Dl w0 _ _ _ g.1 a1) (hv hs) ?_
 refine ne hs c ?_
 clear c
 exact rt h hs a j
def EB (n:Nat) (g:ByteArray) (b:Ty) (h:Ty):Option Bool :=
 (AH n b h (Gx g)).bind fun q =>
 some (!q.2)
theorem Qu (w0:World) (n:Nat) (B:List (List AV)) (Rw:List RowA) (L:List LoopA) (a0:ByteArray) (la1:Nat) (a1:Ty) (hla1:B[la1]? = some (a1.cs)) (la2:Nat) (a2:Ty) (hla2:B[la2]? = some (a2.cs)) (r:Bool) (h:EB n a0 a1 a2=some r) :
  ACalls Tryz.prog w0 200 [.val (.string a0),.box la1 0,.box la2 0] ⟨B,Rw,L⟩ fun x st=>x = .val (.bool r)∧st=⟨B,Rw,L⟩:=by
 rw [EB] at h
 refine hd [.tmp 4] Tryz.func200 Tryz.ntmps200 fun M0 W0 l j f a k g hs=>?_
 simp only [Au]
 have c:=(Ag.1 hla1).1
 have d:=(Ag.1 hla2).1
 have hs:=Aa (An hla1) hs
 have hs:=Aa (An hla2) hs
 refine rg [0,1,2] hs ?_
 apply Ah;intro K2 b
 obtain ⟨m,e,h⟩:=bind_some h
 apply Ho HH [8,9] [6] kr (fun s=>∃ (X:List (List AV)) (rows:List RowA),s=⟨B++([]++X),rows,L⟩) 3 (B.length+0)
 ·simp +decide only [go_sem,Nat.reduceAdd]
 ·rintro s ⟨X,rows,rfl⟩
  refine ⟨3,?_⟩
  rw [Am];simp +decide only [go_sem,Nat.reduceAdd,Eh,An hla1,An hla2]
  (repeat' apply Aa)<;>first | refine Ai _ (U1 w0 _ _ _ a0) (hv hs) ?_ | exact cl
  rw [Am];simp +decide only [go_sem,Nat.reduceAdd,An hla1,An hla2]
  (repeat' apply Aa)<;>first | refine Ai _ (Iz w0 n _ _ _ a1 a2 (Gx a0) _ e) (hv hs) ?_ | exact cl
  rw [Am];simp +decide only [go_sem,Nat.reduceAdd,An hla1,An hla2]
  (repeat' apply Aa)<;>first | rfl | exact cl
 ·refine Good.mk [8] kr ⟨[],_,by first | rfl | (simp only [List.append_nil,List.nil_append];done) | (simp only [List.append_nil,List.nil_append];rfl)⟩ ?_ ?_
  ·intro h;exact absurd h (by decide)
  ·intro i hi;simp only [List.mem_cons,List.not_mem_nil,or_false] at hi
   subst hi
   ·apply BU rfl rfl ev
    ·simp +decide only [go_sem,Nat.reduceAdd,DU,An hla1,An hla2]
     (repeat' apply Aa)<;>first | rfl | exact cl
    ·simp +decide only [go_sem,Nat.reduceAdd,An hla1,An hla2]
     refine Good.mk [9] kr ⟨_,_,by first | rfl | (simp only [List.append_nil,List.nil_append];done) | (simp only [List.append_nil,List.nil_append];rfl)⟩ ?_ ?_
     ·intro h;exact absurd h (by decide)
     ·intro i hi;simp only [List.mem_cons,List.not_mem_nil,or_false] at hi
      subst hi
      ·apply BU rfl rfl ev
       ·simp +decide only [go_sem,Nat.reduceAdd,DU,An hla1,An hla2]
        (repeat' apply Aa)<;>first | rfl | exact cl
       ·simp +decide only [go_sem,Nat.reduceAdd,An hla1,An hla2]
        refine Good.mk [] kr ⟨_,_,by first | rfl | (simp only [List.append_nil,List.nil_append];done) | (simp only [List.append_nil,List.nil_append];rfl)⟩ ?_ ?_
        ·intro _;apply CO [6];first | (simp +decide only [go_sem,Nat.reduceAdd,An hla1,An hla2];done) | (simp +decide only [go_sem,Nat.reduceAdd,An hla1,An hla2];rfl)
        ·intro i hi;cases hi
 simp +decide only [go_sem,Nat.reduceAdd,An hla1,An hla2]
 (repeat' apply Aa)<;>first | refine b _ _ ?_ | exact cl
 clear b
 refine rg [4] hs ?_
 exact rt h hs a g
def C7 (b:Ty) (g:Ty):Bool :=
 (decide (g.min≤b.min))&&(decide (b.max≤g.max))
theorem Tt (w0:World) (B:List (List AV)) (Rw:List RowA) (L:List LoopA) (a0:Ty) (a1:Ty) (r:Bool) (h:C7 a0 a1=r) :
  ACalls Tryz.prog w0 149 [.agg (a0.cs),.agg (a1.cs)] ⟨B,Rw,L⟩ fun x st=>x = .val (.bool r)∧st=⟨B,Rw,L⟩:=by
 rw [C7] at h
 refine hd [.tmp 4] Tryz.func149 Tryz.ntmps149 fun M0 W0 f d b a e c hs=>?_
 simp only [Au]
 refine rg [2,3] hs ?_
 refine rg [4] hs ?_
 exact rT h hs a c
theorem EE (w0:World) (B:List (List AV)) (Rw:List RowA) (L:List LoopA) (a0:Ty) (a1:Ty) :
  ACalls Tryz.prog w0 149 [.agg (a0.cs),.agg (a1.cs)] ⟨B,Rw,L⟩ fun x st=>x = .val (.bool (C7 a0 a1))∧st=⟨B,Rw,L⟩:=Tt w0 B Rw L a0 a1 _ rfl
def Gg (n:Nat)  : Option Int :=
 some ((-1))
def B2 (n:Nat) (g:List ByteArray) (s:ByteArray→Option Bool):Nat→Int→Option Int
 | 0,_=>none
 | m+1,b =>
  if decide (b<(g.length:Int)) then
   (B7 g b).bind fun h =>
   (s h).bind fun q =>
   if q then
    some (b)
   else
    if BQ (b+1) then
     (B2 n g s m) (b+1)
    else none
  else
   Gg n 
def EM (n:Nat) (b:List ByteArray) (g:ByteArray→Option Bool):Option Int :=
 B2 n b g n 0
theorem Nl (w0:World) (n:Nat) (B:List (List AV)) (Rw:List RowA) (L:List LoopA) (a0:List ByteArray) (fa1:FuncId) (ca1:List AV) (a1:ByteArray→Option Bool) (ha1:∀ (x0:ByteArray) r,a1 x0=some r→∀ B' rows,B <+: B'→Rw <+: rows→ACalls Tryz.prog w0 fa1 ([.val (.string x0)]++ca1) ⟨B',rows,L⟩ fun v s=>v = .val (.bool r)∧s=⟨B',rows,L⟩) (r:Int) (h:EM n a0 a1=some r) :
  ACalls Tryz.prog w0 229 [.list (a0.map Lq) .none,.clo fa1 ca1] ⟨B,Rw,L⟩ fun x st=>x = .val (.int .i64 r)∧st=⟨B,Rw,L⟩:=by
 rw [EM] at h
 refine hd [.tmp 4] Tryz.func229 Tryz.ntmps229 fun M0 W0 C o t b F d hs=>?_
 simp only [Au]
 have c:=CH (F (.clo fa1 ca1) (by simp))
 refine rg [0,1] hs ?_
 refine Aw (fun e st=>Ck e st B Rw L [] [] [] (Gg n  = some r)) ?_ ?_
 ·intro K4 y
  refine rg [0,1,7,8] hs ?_
  apply Ak
  refine AC (fun m e st=>∃ (a:Int),Ck e st B Rw L [(0,true,.list (a0.map Lq) .none),(1,true,.clo fa1 ca1),(7,true,.val (.int .i64 (a0.length:Int))),(8,true,.val (.int .i64 a))] [] [] (B2 n a0 a1 m a=some r)) n ⟨0,([]),Rw,ef hs,ef hs,d,h⟩ ?_
  rintro ml6 e st ⟨a,Xl6,Rl6,rfl,rfl,d,h⟩ Ul6 Vl6
  cases ml6 with
  | zero=>cases h
  | succ ml6 =>
  rw [B2] at h
  refine AM C o t rfl b d (Ju c d) (Ju c d) ?_
  refine rg [0,1,7,8,9] hs ?_
  apply Ah;intro K8 p
  refine AN h hs (fun hs h=>?_) (fun hs h=>?_)
  rotate_left
  ·refine sx [] hs y ?_
   exact ⟨([]),Rl6,ef hs,ef hs,d,h⟩
  refine sk [0,1,7,8] hs p ?_
  clear p
  apply Ah;intro K10 i
  apply Ak
  refine rg [0,1,5,7,8] hs ?_
  obtain ⟨w,l,h⟩:=bind_some h
  obtain ⟨u,z,j⟩:=AA l
  have k:=AB (f:=Lq) j
  obtain ⟨E,q,h⟩:=bind_some h
  have hs:=Aa k hs
  refine rc 2 [0,1,5,7,8,16] hs ?_;intro K12 g
  refine F7 _ (ha1 w _ q _ _ px d.pre) (hv hs) ?_
  refine ne hs g ?_
  clear g
  refine AN h hs (fun hs h=>?_) (fun hs h=>?_)
  ·refine rg [4] hs ?_
   exact rt h hs b d
  refine sk [0,1,7,8] hs i ?_
  clear i
  obtain ⟨D,h⟩:=Aj h
  refine rl [0,1,7,8] hs (fun e s=>Vl6 ml6 e s (Nat.lt_succ_self _)) ?_
  exact ⟨(a+1),([]),Rl6,ef hs,ef hs,d,h⟩
 ·clear h;rintro e st ⟨Xk3,Rk3,rfl,rfl,d,h⟩
  rw [Gg] at h
  refine AM C o t rfl b d (Ju c d) (Ju c d) ?_
  refine rg [4] hs ?_
  exact rt h hs b d
def C2 (n:Nat) (b:List ByteArray) (g:ByteArray→Option Bool):Option Bool :=
 (EM n b g).bind fun h =>
 some (decide (0≤h))
theorem Ln (w0:World) (n:Nat) (B:List (List AV)) (Rw:List RowA) (L:List LoopA) (a0:List ByteArray) (fa1:FuncId) (ca1:List AV) (a1:ByteArray→Option Bool) (ha1:∀ (x0:ByteArray) r,a1 x0=some r→∀ B' rows,B <+: B'→Rw <+: rows→ACalls Tryz.prog w0 fa1 ([.val (.string x0)]++ca1) ⟨B',rows,L⟩ fun v s=>v = .val (.bool r)∧s=⟨B',rows,L⟩) (r:Bool) (h:C2 n a0 a1=some r) :
  ACalls Tryz.prog w0 199 [.list (a0.map Lq) .none,.clo fa1 ca1] ⟨B,Rw,L⟩ fun x st=>x = .val (.bool r)∧st=⟨B,Rw,L⟩:=by
 rw [C2] at h
 refine hd [.tmp 4] Tryz.func199 Tryz.ntmps199 fun M0 W0 p o k b m g hs=>?_
 simp only [Au]
 have e:=CH (m (.clo fa1 ca1) (by simp))
 refine rg [0,1] hs ?_
 obtain ⟨q,f,h⟩:=bind_some h
 refine rc 2 [4] hs ?_;intro K2 c
 refine Ai _ (Nl w0 n _ _ _ a0 fa1 ca1 a1 (fun x0 r j d a l i=>ha1 x0 r j d a (List.IsPrefix.trans px l) (g.pre.trans i)) _ f) (hv hs) ?_
 refine ne hs c ?_
 clear c
 exact rt h hs b g
def G0 (n:Nat) (b:Ty) (g:Ty):Option Bool :=
 if decide (0<(b.words.length:Int)) then
  (C2 n b.words (fun (q:ByteArray)=>EB n q b g)).bind fun s =>
  some (!s)
 else
  if decide (0<(g.words.length:Int)) then
   if decide (b.max=0) then
    (BG n g.words ((⟨#[]⟩:ByteArray))).bind fun h =>
    some (h)
   else
    some (false)
  else
   some (C7 b g)
theorem Tu (w0:World) (n:Nat) (B:List (List AV)) (Rw:List RowA) (L:List LoopA) (a0:Ty) (a1:Ty) (r:Bool) (h:G0 n a0 a1=some r) :
  ACalls Tryz.prog w0 148 [.agg (a0.cs),.agg (a1.cs)] ⟨B,Rw,L⟩ fun x st=>x = .val (.bool r)∧st=⟨B,Rw,L⟩:=by
 rw [G0] at h
 refine hd [.tmp 4] Tryz.func148 Tryz.ntmps148 fun M0 W0 u m s a w i hs=>?_
 simp only [Au]
 refine rg [2,3] hs ?_
 apply Ah;intro K2 g
 apply Ak
 refine rg [2,3,5] hs ?_
 refine AN h hs (fun hs h=>?_) (fun hs h=>?_)
 ·obtain ⟨t,k,h⟩:=bind_some h
  refine rc 2 [4] hs ?_;intro K5 f
  refine Ai _ (Ln w0 n _ _ _ a0.words 200 [.box B.length 0,.box (B.length+1) 0] (fun (j:ByteArray)=>EB n j a0 a1) (fun j r q v l e o=>by exact Qu w0 n _ _ _ j _ a0 (DY e (ef hs)) _ a1 (DY e (ef hs)) _ q) _ k) (hv hs) ?_
  refine ne hs f ?_
  clear f
  exact rt h hs a i
 refine rg [2,3,15] hs ?_
 refine AN h hs (fun hs h=>?_) (fun hs h=>?_)
 ·apply Ah;intro K9 b
  rcases Bool.eq_false_or_eq_true (decide (a0.max=0)) with hf10 | hf10
  ·replace h:=Ba h hf10
   obtain ⟨p,d,h⟩:=bind_some h
   have hs:=Aa hf10 hs
   refine rk 2 [4] hs ?_
   refine Ai _ (EO w0 n _ _ _ a1.words ((⟨#[]⟩:ByteArray)) _ d) (hv hs) ?_
   refine ne hs b ?_
   clear b
   exact rt h hs a i
  ·replace h:=A9 h hf10
   have hs:=Aa hf10 hs
   refine rk 2 [4] hs ?_
   refine AD ?_
   refine ne hs b ?_
   clear b
   exact rt h hs a i
 refine sk [2,3] hs g ?_
 clear g
 refine rc 2 [4] hs ?_;intro K12 c
 refine Ai _ (EE w0 _ _ _ a0 a1) (hv hs) ?_
 refine ne hs c ?_
 clear c
 exact rt h hs a i
def BH (rec:Ty→Ty→Option Bool) (n:Nat) (h:Ty) (b:Ty) (g:Bool):Option Bool :=
 if g then
  (Fq n h b).bind fun y15 =>
  some (y15)
 else
  if decide (b.kind=1) then
   some (true)
  else
   if decide (b.kind=4) then
    (G0 n h b).bind fun y22 =>
    some (y22)
   else
    if decide (b.kind=8) then
     if C7 h b then
      if decide (h.max=0) then
       some (true)
      else
       (B7 h.elem 0).bind fun x28 =>
       (B7 b.elem 0).bind fun x29 =>
       (rec x28 x29).bind fun y30 =>
       some (y30)
     else
      some (false)
    else
     if decide (b.kind=9) then
      (AE n b.fields (fun (q:Int × ByteArray × Int × Ty × List Vl)=>CY rec n q h)).bind fun y =>
      some (!y)
     else
      if decide (b.kind=10) then
       (AE n h.fields (fun (q:Int × ByteArray × Int × Ty × List Vl)=>C0 rec n q b)).bind fun s =>
       some (!s)
      else
       some (C7 h b)
def Fo (rec:Ty→Ty→Option Bool) (n:Nat) (g:Ty) (b:Ty):Option Bool :=
 if !(Dy g.kind b.kind) then
  some (false)
 else
  if decide (b.kind=2) then
   BH rec n g b true
  else
   BH rec n g b (decide (b.kind=3))
def AK:Nat→Ty→Ty→Option Bool
 | 0,_,_=>none
 | n+1,b,g=>Fo (AK n) n b g
def HD (w0:World) (F:Ty→Ty→Option Bool):Prop:=∀ (B:List (List AV)) (Rw:List RowA) (L:List LoopA) (b:Ty) (g:Ty) (r:Bool),F b g=some r→ACalls Tryz.prog w0 90 [.agg (b.cs),.agg (g.cs)] ⟨B,Rw,L⟩ fun x st=>x = .val (.bool r)∧st=⟨B,Rw,L⟩
theorem NA (w0:World) (rec:Ty→Ty→Option Bool) (ih:HD w0 rec) (n:Nat):HD w0 (Fo rec n):=by
 intro B Rw L a0 a1 r h
 rw [Fo] at h
 refine hd [.tmp 4] Tryz.func90 Tryz.ntmps90 fun M0 W0 Y J U a hu d hs=>?_
 simp only [Au]
 refine rg [2,3] hs ?_
 apply Ah;intro K2 E
 refine rc 2 [2,3,10] hs ?_;intro K3 x
 refine Ai _ (JY w0 _ _ _ a0.kind a1.kind) (hv hs) ?_
 refine ne hs x ?_
 clear x
 refine AN h hs (fun hs h=>?_) (fun hs h=>?_)
 ·refine rg [4] hs ?_
  exact rt h hs a d
 refine sk [2,3] hs E ?_
 clear E
 apply Ah;intro K6 w
 refine rg [2,3,12] hs ?_
 apply Ak
 refine Aw (fun e st=>∃ (c:Bool),Ck e st B Rw L [(2,true,.box B.length 0),(3,true,.box (B.length+1) 0),(12,true,.val (.int .i64 a1.kind)),(13,true,.val (.bool c))] [a0.cs,a1.cs] [] (BH rec n a0 a1 c=some r)) ?_ ?_
 ·intro K10 k
  refine rg [2,3,12,13] hs ?_
  refine AN h hs (fun hs h=>?_) (fun hs h=>?_)
  ·refine sk [2,3,12,13] hs k ?_
   exact ⟨true,([]),Rw,ef hs,ef hs,d,h⟩
  refine rl [2,3,12,13] hs k ?_
  exact ⟨(decide (a1.kind=3)),([]),Rw,ef hs,ef hs,d,h⟩
 ·clear h;rintro e st ⟨c,Xk9,Rk9,rfl,rfl,d,h⟩
  rw [BH] at h
  refine td Y J U a d ?_
  refine AN h hs (fun hs h=>?_) (fun hs h=>?_)
  ·obtain ⟨aa,C,h⟩:=bind_some h
   refine rc 2 [4] hs ?_;intro K14 m
   refine Ai _ (Q4 w0 n _ _ _ a0 a1 _ C) (hv hs) ?_
   refine ne hs m ?_
   clear m
   exact rt h hs a d
  refine rg [2,3,12,19] hs ?_
  refine AN h hs (fun hs h=>?_) (fun hs h=>?_)
  ·refine rg [4] hs ?_
   exact rt h hs a d
  refine rg [2,3,12,21] hs ?_
  refine AN h hs (fun hs h=>?_) (fun hs h=>?_)
  ·obtain ⟨ae,v,h⟩:=bind_some h
   refine rc 2 [4] hs ?_;intro K21 l
   refine Ai _ (Tu w0 n _ _ _ a0 a1 _ v) (hv hs) ?_
   refine ne hs l ?_
   clear l
   exact rt h hs a d
  refine rg [2,3,12,26] hs ?_
  refine AN h hs (fun hs h=>?_) (fun hs h=>?_)
  ·apply Ah;intro K25 b
   rcases Bool.eq_false_or_eq_true (C7 a0 a1) with hf26 | hf26
   ·replace h:=Ba h hf26
    rcases Bool.eq_false_or_eq_true (decide (a0.max=0)) with hf27 | hf27
    ·replace h:=Ba h hf27
     have hs:=Aa hf26 hs
     have hs:=Aa hf27 hs
     refine dk 20 3 1 [4] hs HH ?_
     refine Ai _ (EE w0 _ _ _ a0 a1) (hv hs) ?_
     refine nc hs ?_
     refine AD ?_
     refine dn hs b ?_
     clear b
     exact rt h hs a d
    ·replace h:=A9 h hf27
     obtain ⟨V,F,G,g,h⟩:=ix HF h
     have u:(a0.elem.map HF).getD 0 .junk=_:=g
     obtain ⟨H,K,O,f,h⟩:=ix HF h
     have s:(a1.elem.map HF).getD 0 .junk=_:=f
     obtain ⟨ad,y,h⟩:=bind_some h
     have hs:=Aa hf26 hs
     have hs:=Aa hf27 hs
     have hs:=Aa g hs
     have hs:=Aa u hs
     have hs:=Aa f hs
     have hs:=Aa s hs
     refine dk 20 3 1 [4] hs HH ?_
     refine Ai _ (EE w0 _ _ _ a0 a1) (hv hs) ?_
     refine nc hs ?_
     refine Ai _ (ih _ _ _ V H _ y) (hv hs) ?_
     refine dn hs b ?_
     clear b
     exact rt h hs a d
   ·replace h:=A9 h hf26
    have hs:=Aa hf26 hs
    refine dk 20 3 1 [4] hs HH ?_
    refine Ai _ (EE w0 _ _ _ a0 a1) (hv hs) ?_
    refine nc hs ?_
    refine AD ?_
    refine dn hs b ?_
    clear b
    exact rt h hs a d
  refine rg [2,3,12,47] hs ?_
  refine AN h hs (fun hs h=>?_) (fun hs h=>?_)
  ·obtain ⟨ab,D,h⟩:=bind_some h
   refine rc 2 [4] hs ?_;intro K33 j
   refine Ai _ (B8 w0 n _ _ _ a1.fields 151 [.box B.length 0] (fun (q:Int × ByteArray × Int × Ty × List Vl)=>CY rec n q a0) (fun q r Q B' t p N=>by exact NV w0 rec ih n _ _ _ q _ a0 (DY p (ef hs)) _ Q) _ D) (hv hs) ?_
   refine ne hs j ?_
   clear j
   exact rt h hs a d
  refine rg [2,3,54] hs ?_
  refine AN h hs (fun hs h=>?_) (fun hs h=>?_)
  ·obtain ⟨Z,z,h⟩:=bind_some h
   refine rc 2 [4] hs ?_;intro K37 o
   refine Ai _ (B8 w0 n _ _ _ a0.fields 153 [.box (B.length+1) 0] (fun (q:Int × ByteArray × Int × Ty × List Vl)=>C0 rec n q a1) (fun q r Q B' t p N=>by exact NU w0 rec ih n _ _ _ q _ a1 (DY p (ef hs)) _ Q) _ z) (hv hs) ?_
   refine ne hs o ?_
   clear o
   exact rt h hs a d
  refine sk [2,3] hs w ?_
  clear w
  refine rc 2 [4] hs ?_;intro K39 i
  refine Ai _ (EE w0 _ _ _ a0 a1) (hv hs) ?_
  refine ne hs i ?_
  clear i
  exact rt h hs a d
theorem E2 (w0:World):∀ n:Nat,HD w0 (AK n)
 | 0=>fun _ _ _ _ _ _ h=>(nomatch h)
 | n+1=>NA w0 (AK n) (E2 w0 n) n
def Lu (b:Ty) (g:Ty):Bool :=
 (decide (g.min≤b.min))&&(decide (b.max≤g.max))
def P0 (rec:Ty→Ty→Option Bool) (n:Nat) (b:Ty) (g:Ty):Option Bool :=
 if decide (0<(b.words.length:Int)) then
  some (true)
 else
  if decide (0<(g.words.length:Int)) then
   if decide (b.max=0) then
    (O3 n ((⟨#[]⟩:ByteArray)) g).bind fun h =>
    some (h)
   else
    some (false)
  else
   some (Lu b g)
def Zao (rec:Ty→Ty→Option Bool) (n:Nat)  : Option Bool :=
 some (true)
def Z8 (rec:Ty→Ty→Option Bool) (n:Nat)  : Option Bool :=
 some (true)
def Zah (rec:Ty→Ty→Option Bool) (n:Nat) (b:Ty) (g:Ty):Option Bool :=
 some (Lu b g)
def Ib (rec:Ty→Ty→Option Bool) (n:Nat) (g:Ty) (q:Ty):Nat→Int→Option Bool
 | 0,_=>none
 | m+1,b =>
  if decide (b<(g.words.length:Int)) then
   (B7 g.words b).bind fun h =>
   (O3 n h q).bind fun s =>
   if !s then
    some (false)
   else
    if BQ (b+1) then
     (Ib rec n g q m) (b+1)
    else none
  else
   P0 rec n g q 
def Ji (rec:Ty→Ty→Option Bool) (n:Nat) (q:Ty) (y:Ty):Nat→Int→Option Bool
 | 0,_=>none
 | m+1,b =>
  if decide (b<(q.fields.length:Int)) then
   (B7 q.fields b).bind fun g =>
   (Gz n y g.1).bind fun h =>
   if !h.2 then
    some (false)
   else
    (rec g.2.2.2.1 h.1.2.2.2.1).bind fun s =>
    if !s then
     some (false)
    else
     if BQ (b+1) then
      (Ji rec n q y m) (b+1)
     else none
  else
   Zao rec n 
def He (rec:Ty→Ty→Option Bool) (n:Nat) (y:Ty) (s:Ty):Nat→Int→Option Bool
 | 0,_=>none
 | m+1,b =>
  if decide (b<(s.fields.length:Int)) then
   (B7 s.fields b).bind fun h =>
   (Gz n y h.1).bind fun g =>
   if (!g.2)&&(decide (h.2.2.1=1)) then
    some (false)
   else
    if g.2 then
     (rec g.1.2.2.2.1 h.2.2.2.1).bind fun q =>
     if (!q)||((decide (h.2.2.1=1))&&(decide (g.1.2.2.1=2))) then
      some (false)
     else
      if BQ (b+1) then
       (He rec n y s m) (b+1)
      else none
    else
     if BQ (b+1) then
      (He rec n y s m) (b+1)
     else none
  else
   Z8 rec n 
def Yt (rec:Ty→Ty→Option Bool) (n:Nat) (g:Ty) (b:Ty):Option Bool :=
 if (decide (0≤(A3 g)))&&(decide (0≤(A3 b))) then
  if BQ ((A3 b)-(A3 g)) then
   (G9 n g.min ((A3 b)-(A3 g))).bind fun y7 =>
   if BQ ((A3 b)-(A3 g)) then
    (G9 n g.max ((A3 b)-(A3 g))).bind fun h =>
    if (decide ((A3 b)<(A3 g)))&&(!(decide (g.min=g.max))) then
     some (false)
    else
     some (((y7.2&&h.2)&&(Bi y7.1 b))&&(Bi h.1 b))
   else none
  else none
 else
  if !(decide (g.kind=b.kind)) then
   some (false)
  else
   if decide (b.kind=1) then
    some (true)
   else
    if decide (b.kind=4) then
     Ib rec n g b n 0
    else
     if decide (b.kind=8) then
      if Lu g b then
       if decide (g.max=0) then
        some (true)
       else
        (B7 g.elem 0).bind fun s =>
        (B7 b.elem 0).bind fun q =>
        (rec s q).bind fun y =>
        some (y)
      else
       some (false)
     else
      if decide (b.kind=10) then
       Ji rec n g b n 0
      else
       if decide (b.kind=9) then
        He rec n g b n 0
       else
        Zah rec n g b 
def HK:Nat→Ty→Ty→Option Bool
 | 0,_,_=>none
 | n+1,b,g=>Yt (HK n) n b g
end Go.Proofs.YtgpmlelfkjfbiaaGreatDoor
