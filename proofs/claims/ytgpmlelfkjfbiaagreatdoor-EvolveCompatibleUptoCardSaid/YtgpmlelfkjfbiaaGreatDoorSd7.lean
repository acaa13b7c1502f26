/-
  Part 7 of the proof: rules and walks that the claim's last text uses.
-/
import Derived.Test.YtgpmlelfkjfbiaaGreatDoorSd6
set_option linter.unusedSimpArgs false
set_option linter.unusedVariables false
set_option maxRecDepth 100000
set_option maxHeartbeats 4000000
namespace Go.Proofs.YtgpmlelfkjfbiaaGreatDoor
open Go Go.RowKit Go.Ev
def Vu (g:TF):Option (List (ByteArray × Vl)):=if g.2.2.1=1 then none else if g.2.2.1=3 then some (match g.2.2.2.2 with | x::_=>[(g.2.1,x)] | []=>[]) else some []
def MM (f:Ty→Ty→Vl→Option Vl) (a:Ty) (v:Vl) (g:TF):Option (List (ByteArray × Vl)) :=
 match GF a.fields g.1 with
 | some p=>(match Df v p.2.1 with
  | some x=>(f p.2.2.2.1 g.2.2.2.1 x).map fun y=>[(g.2.1,y)]
  | none=>Vu g)
 | none=>Vu g
def NP (f:Ty→Ty→Vl→Option Vl) (a:Ty) (v:Vl):List TF→Option (List (ByteArray × Vl))
 | []=>some []
 | g::gs=>(MM f a v g).bind fun o=>(NP f a v gs).map fun l=>o++l
def Pg (f:Vl→Option Vl):List Vl→Option (List Vl)
 | []=>some []
 | v::r=>(f v).bind fun y=>(Pg f r).map fun l=>y::l
def Tn:Nat→Ty→Ty→Vl→Option Vl
 | 0,_,_,_=>none
 | d+1,a,b,v =>
  if (a.kind=2∨a.kind=3)∧(b.kind=2∨b.kind=3) then (KT v.int a.scale b.scale).bind fun m=>if Lp m b=true then some (Vl.mk b.kind m b.scale ⟨#[]⟩ [] []) else none
  else if a.kind≠b.kind then none
  else if b.kind=6∨b.kind=7 then (if Lp v.int b=true then some v else none)
  else if b.kind=5 then (if Lp v.text.size b=true then some v else none)
  else if b.kind=4 then (if GY v.text b=true then some v else none)
  else if b.kind=8 then (match a.elem,b.elem with | [x],[y]=>(Pg (Tn d x y) v.list).bind fun l=>if Lp v.list.length b=true then some (Vl.mk 8 0 0 ⟨#[]⟩ l []) else none | _,_=>none)
  else if b.kind=9 then (NP (Tn d) a v b.fields).map fun l=>Vl.mk 9 0 0 ⟨#[]⟩ [] (BG l)
  else if b.kind=10 then (match Bj a v.text,v.list with | some p,x::_=>(match GF b.fields p.1 with | some g=>(Tn d p.2.2.2.1 g.2.2.2.1 x).map fun y=>Vl.mk 10 0 0 g.2.1 [y] [] | none=>none) | _,_=>none)
  else some v
def Ju (D:Nat) (o:Option Vl) (r:Vl × Bool):Prop:=(match o with | some y=>r=(y,true) | none=>r.2=false)∧r.1.Nar∧r.1.depth≤D
theorem NW (k i s:Int) (t:ByteArray) (h:t.size≤1048576):(Vl.mk k i s t [] []).Nar := .mk _ (by simp [Vl.list]) (by simp [Vl.fields]) h (by simp [Vl.list]) (by simp [Vl.fields]) (by simp [Vl.fields])
theorem Zc0:nilV.Nar:=NW 0 0 0 _ (by decide)
theorem Ky (k i s:Int) (t:ByteArray):(Vl.mk k i s t [] []).depth=1:=by simp [Vl.depth,HJ,Hj]
theorem Jn {D:Nat} (h:1≤D) {r:Vl × Bool} (e:r=(nilV,false)):Ju D none r:=by
 subst e
 exact ⟨rfl,Zc0,by rw [Ky];exact h⟩
theorem Pn {D:Nat} {v:Vl} {b:Bool} (h1:v.Nar) (h2:v.depth≤D):Ju D (if b=true then some v else none) (v,b):=by
 cases b with
 | true=>exact ⟨rfl,h1,h2⟩
 | false=>exact ⟨rfl,h1,h2⟩
theorem ZdG (n:Nat) (l:List (ByteArray × Vl)) (x:ByteArray × Vl) (hs:SS l) (hi:Yv l x.1=false) (hl:l.length≤1000000):∀ (k m at_:Nat),at_≤k→at_≤l.length→(∀ i (h:at_≤i) (h2:i<l.length),¬ Eh l[i].1 x.1<0)→k<m→Hh n l x m at_=some (SV l x.1 x.2)
 | k,0,at_,_,_,_,h=>absurd h (Nat.not_lt_zero _)
 | k,m+1,at_,hk,ha,hb,hm=>by
  have fin:(∀ i (h:i<at_) (h2:i<l.length),Eh l[i].1 x.1<0)→Hn n l x at_=some (SV l x.1 x.2):=fun q=>by
   have e:at_=Q0 l x.1:=VG ha (fun i h=>q i h (by omega)) (fun h=>hb _ (Nat.le_refl _) h)
   rw [Hn,if_pos (by omega),if_pos (by rw [List.length_take];omega),if_pos (by rw [List.length_take];omega),if_pos (by omega),if_pos (by rw [List.length_take,List.length_drop];omega),SV,L9,←e,Int.toNat_natCast,List.append_assoc,List.singleton_append]
  rw [Hh]
  by_cases c:0<at_
  ·obtain ⟨j,rfl⟩:∃ j,at_=j+1:=⟨at_-1,by omega⟩
   have b:((j+1:Nat):Int)-1=(j:Int):=by omega
   have a:j<l.length:=by omega
   rw [decide_eq_true (show (0:Int)<((j+1:Nat):Int) by omega),if_pos rfl,b,if_pos (by unfold BR;omega),Au a,Option.bind_some,XG]
   have ne:Dz l[j].1 x.1=false:=by
    cases q:Dz l[j].1 x.1 with
    | false=>rfl
    | true=>rw [MS.2 ⟨_,List.getElem_mem a,(EE _ _).1 q⟩] at hi;cases hi
   rw [ne,Bool.or_false]
   by_cases d:Eh l[j].1 x.1<0
   ·rw [decide_eq_true d,if_neg (by decide)]
    refine fin fun i h h2=>?_
    rcases Nat.lt_or_ge i j with z | z
    ·exact O0 (List.pairwise_iff_getElem.1 hs i j h2 a z) d
    ·obtain rfl:i=j:=by omega
     exact d
   ·obtain ⟨k,rfl⟩:∃ q,k=q+1:=⟨k-1,by omega⟩
    rw [decide_eq_false d,if_pos (by rfl),if_pos (by unfold BR;omega)]
    refine ZdG n l x hs hi hl k m j (by omega) (by omega) (fun i h h2=>?_) (by omega)
    rcases Nat.lt_or_ge j i with z | z
    ·exact hb i (by omega) h2
    ·obtain rfl:i=j:=by omega
     exact d
  ·obtain rfl:at_=0:=by omega
   rw [decide_eq_false (by decide),if_neg (by decide)]
   exact fin fun i h=>absurd h (by omega)
theorem Zbn (n:Nat) (l:List (ByteArray × Vl)) (x:ByteArray × Vl) (hs:SS l) (hi:Yv l x.1=false) (hl:l.length≤1000000) (hn:l.length<n):GZ n l x=some (SV l x.1 x.2) :=
 ZdG n l x hs hi hl l.length n l.length (Nat.le_refl _) (Nat.le_refl _) (fun i h a=>by omega) hn
theorem Zdv (rec:Ty→Ty→Vl→Option (Vl × Bool)) (n D:Nat) (a b x y:Ty) (v:Vl) (f:Vl→Option Vl) (ha:a.elem=[x]) (hb:b.elem=[y]) (hD:1≤D) (hl:v.list.length≤100000000)
  (hr:∀ u∈v.list,∃ r,rec x y u=some r∧Ju D (f u) r):∀ (k m i:Nat) (acc:List Vl),i+k=v.list.length→k<m→acc.length=i→(∀ u∈acc,u.Nar∧u.depth≤D) →
  ∃ r,C2 rec n a b v m i acc=some r∧Ju (D+1) ((Pg f (v.list.drop i)).bind fun l=>if Lp v.list.length b=true then some (Vl.mk 8 0 0 ⟨#[]⟩ (acc++l) []) else none) r
 | k,0,i,acc,_,h,_,_=>absurd h (Nat.not_lt_zero _)
 | 0,m+1,i,acc,hi,_,h1,h2=>by
  rw [C2,An,decide_eq_false (by omega),if_neg (by decide),Gf,List.drop_eq_nil_of_le (by omega),Pg,Option.bind_some,List.append_nil,A8]
  exact ⟨_,rfl,Pn (.mk _ (by simp only [Vl.list];omega) (by simp [Vl.fields]) (by show (⟨#[]⟩:ByteArray).size≤1048576;decide) (fun u hu=>(h2 u hu).1) (by simp [Vl.fields]) (by simp [Vl.fields])) (by
   have:=(HU acc D).2 fun u hu=>(h2 u hu).2
   simp only [Vl.depth,Hj];omega)⟩
 | k+1,m+1,i,acc,hi,hm,h1,h2=>by
  have c:i<v.list.length:=by omega
  obtain ⟨r,e,⟨u1,u2,u3⟩⟩:=hr _ (List.getElem_mem c)
  rw [C2,An,decide_eq_true c,if_pos rfl,Au c,Option.bind_some,ha,hb,show Cb [x] 0=some x from rfl,Option.bind_some,show Cb [y] 0=some y from rfl,Option.bind_some,e,Option.bind_some,List.drop_eq_getElem_cons c,Pg]
  cases q:f v.list[i] with
  | none =>
   rw [q] at u1
   simp only at u1
   rw [u1,if_pos (by rfl),Option.bind_none,Option.bind_none]
   exact ⟨_,rfl,Jn (by omega) rfl⟩
  | some z =>
   rw [q] at u1
   simp only at u1
   subst u1
   rw [if_neg (by simp),if_pos (by omega),if_pos (Ar (by omega))]
   obtain ⟨r,e,u⟩:=Zdv rec n D a b x y v f ha hb hD hl hr k m (i+1) (acc++[z]) (by omega) (by omega) (by simp;omega) (fun u hu=>by
    rcases List.mem_append.1 hu with hu | hu
    ·exact h2 u hu
    ·rw [List.mem_singleton] at hu;subst hu;exact ⟨u2,u3⟩)
   refine ⟨r,e,?_⟩
   rw [Option.bind_some]
   simp only [List.append_assoc,List.singleton_append] at u
   cases w:Pg f (v.list.drop (i+1)) with
   | none=>rw [w] at u;exact u
   | some l=>rw [w] at u;exact u
theorem ZaL (rec:Ty→Ty→Vl→Option (Vl × Bool)) (n D:Nat) (a b x y:Ty) (v:Vl) (f:Vl→Option Vl) (ha:a.elem=[x]) (hb:b.elem=[y]) (hD:1≤D) (hl:v.list.length≤100000000)
  (hr:∀ u∈v.list,∃ r,rec x y u=some r∧Ju D (f u) r):∀ (k m i:Nat) (acc:List Vl),i+k=v.list.length→k<m→acc.length=i→(∀ u∈acc,u.Nar∧u.depth≤D) →
  ∃ r,I8 rec n a b v m i acc=some r∧Ju (D+1) ((Pg f (v.list.drop i)).bind fun l=>if Lp v.list.length b=true then some (Vl.mk 8 0 0 ⟨#[]⟩ (acc++l) []) else none) r
 | k,0,i,acc,_,h,_,_=>absurd h (Nat.not_lt_zero _)
 | 0,m+1,i,acc,hi,_,h1,h2=>by
  rw [I8,An,decide_eq_false (by omega),if_neg (by decide),O1,List.drop_eq_nil_of_le (by omega),Pg,Option.bind_some,List.append_nil,AU]
  exact ⟨_,rfl,Pn (.mk _ (by simp only [Vl.list];omega) (by simp [Vl.fields]) (by show (⟨#[]⟩:ByteArray).size≤1048576;decide) (fun u hu=>(h2 u hu).1) (by simp [Vl.fields]) (by simp [Vl.fields])) (by
   have:=(HU acc D).2 fun u hu=>(h2 u hu).2
   simp only [Vl.depth,Hj];omega)⟩
 | k+1,m+1,i,acc,hi,hm,h1,h2=>by
  have c:i<v.list.length:=by omega
  obtain ⟨r,e,⟨u1,u2,u3⟩⟩:=hr _ (List.getElem_mem c)
  rw [I8,An,decide_eq_true c,if_pos rfl,ha,hb,show Cb [x] 0=some x from rfl,Option.bind_some,show Cb [y] 0=some y from rfl,Option.bind_some,Au c,Option.bind_some,e,Option.bind_some,List.drop_eq_getElem_cons c,Pg]
  cases q:f v.list[i] with
  | none =>
   rw [q] at u1
   simp only at u1
   rw [u1,if_pos (by rfl),Option.bind_none,Option.bind_none]
   exact ⟨_,rfl,Jn (by omega) rfl⟩
  | some z =>
   rw [q] at u1
   simp only at u1
   subst u1
   rw [if_neg (by simp),if_pos (by omega),if_pos (Ar (by omega))]
   obtain ⟨r,e,u⟩:=ZaL rec n D a b x y v f ha hb hD hl hr k m (i+1) (acc++[z]) (by omega) (by omega) (by simp;omega) (fun u hu=>by
    rcases List.mem_append.1 hu with hu | hu
    ·exact h2 u hu
    ·rw [List.mem_singleton] at hu;subst hu;exact ⟨u2,u3⟩)
   refine ⟨r,e,?_⟩
   rw [Option.bind_some]
   simp only [List.append_assoc,List.singleton_append] at u
   cases w:Pg f (v.list.drop (i+1)) with
   | none=>rw [w] at u;exact u
   | some l=>rw [w] at u;exact u
theorem Yg (n D:Nat) (l:List (ByteArray × Vl)) (hl:l.length≤1000000) (hn:D+1000000001<n) (hnul:∀ p∈l,BO p.2=false) (hd:(l.map Prod.fst).Nodup) (hv:(Vl.mk 9 0 0 ⟨#[]⟩ [] (BG l)).Nar) (hdp:(Vl.mk 9 0 0 ⟨#[]⟩ [] (BG l)).depth≤D+1):KI n l=some (Vl.mk 9 0 0 ⟨#[]⟩ [] (BG l)):=by
 have e:=ZaS n l hl (by omega) hnul hd l.length n 0 (by omega) (by omega)
 rw [List.take_zero] at e
 have a:Ej n l n 0 []=_:=e
 rw [KI,a,JC,if_pos (by omega),Ik n _ hv (by omega)]
 rfl
structure Acc (D:Nat) (b:Ty) (i:Nat) (acc:List (ByteArray × Vl)):Prop where
 len:acc.length≤i
 each:∀ p∈acc,p.1.size≤1048576∧p.2.Nar∧p.2.depth≤D∧p.2.kind≠0
 apart:(acc.map Prod.fst++(b.fields.drop i).map fun p=>p.2.1).Nodup
theorem Acc.skip {D:Nat} {b:Ty} {i:Nat} {acc:List (ByteArray × Vl)} (h:Acc D b i acc) (hi:i<b.fields.length):Acc D b (i+1) acc :=
 ⟨Nat.le_succ_of_le h.len,h.each,by
  have:=h.apart
  rw [List.drop_eq_getElem_cons hi,List.map_cons] at this
  exact this.sublist ((List.sublist_cons_self _ _).append_left _)⟩
theorem Acc.push {D:Nat} {b:Ty} {i:Nat} {acc:List (ByteArray × Vl)} (h:Acc D b i acc) (hi:i<b.fields.length) {y:Vl} (hs:b.fields[i].2.1.size≤1048576) (h1:y.Nar) (h2:y.depth≤D) (h3:y.kind≠0):Acc D b (i+1) (acc++[(b.fields[i].2.1,y)]) :=
 ⟨by rw [List.length_append];have:=h.len;simp;omega,fun p hp=>by
  rcases List.mem_append.1 hp with hp | hp
  ·exact h.each p hp
  ·rw [List.mem_singleton] at hp;subst hp;exact ⟨hs,h1,h2,h3⟩,by
  have:=h.apart
  rw [List.drop_eq_getElem_cons hi,List.map_cons] at this
  rw [List.map_append,List.map_singleton,List.append_assoc,List.singleton_append]
  exact this⟩
theorem Acc.names {D:Nat} {b:Ty} {i:Nat} {acc:List (ByteArray × Vl)} (h:Acc D b i acc):(acc.map Prod.fst).Nodup:=h.apart.sublist (List.sublist_append_left _ _)
theorem Acc.new {D:Nat} {b:Ty} {i:Nat} {acc:List (ByteArray × Vl)} (h:Acc D b i acc) (hi:i<b.fields.length):Yv (BG acc) b.fields[i].2.1=false:=by
 cases q:Yv (BG acc) b.fields[i].2.1 with
 | false=>rfl
 | true =>
  obtain ⟨p,a,e⟩:=MS.1 q
  have:=h.apart
  rw [List.drop_eq_getElem_cons hi,List.map_cons] at this
  have:=(List.nodup_append.1 this).2.2 p.1 (List.mem_map.2 ⟨p,(I1 acc).mem_iff.1 a,rfl⟩) b.fields[i].2.1 (List.mem_cons_self ..)
  exact absurd e this
theorem Acc.sort {D:Nat} {b:Ty} {i:Nat} {acc:List (ByteArray × Vl)} (h:Acc D b i acc) (hi:i<b.fields.length) (y:Vl):SV (BG acc) b.fields[i].2.1 y=BG (acc++[(b.fields[i].2.1,y)]):=by
 refine VQ _ _ ?_ (Zan (Qg acc h.names) (h.new hi) y) (Qg _ ?_)
 ·refine ((Rh _ _ _).trans ?_).trans (I1 _).symm
  refine ((I1 acc).cons _).trans ?_
  exact (List.perm_append_singleton _ _).symm
 ·have:=h.apart
  rw [List.drop_eq_getElem_cons hi,List.map_cons] at this
  rw [List.map_append,List.map_singleton]
  exact this.sublist (List.Sublist.append_left (List.singleton_sublist.2 (List.mem_cons_self ..)) _)
theorem Acc.ok {D:Nat} {b:Ty} {i:Nat} {acc:List (ByteArray × Vl)} (h:Acc D b i acc) (hi:i≤100000000):(Vl.mk 9 0 0 ⟨#[]⟩ [] (BG acc)).Nar∧(Vl.mk 9 0 0 ⟨#[]⟩ [] (BG acc)).depth≤D+1:=by
 have c:∀ p∈BG acc,_:=fun p a=>h.each p ((I1 acc).mem_iff.1 a)
 refine ⟨.mk _ (by simp [Vl.list]) (by show (BG acc).length≤_;rw [Gk];have:=h.len;omega) (by show (⟨#[]⟩:ByteArray).size≤1048576;decide) (by simp [Vl.list]) (fun p a=>(c p a).1) (fun p a=>(c p a).2.1),?_⟩
 have:=(I0 (BG acc) D).2 fun p a=>(c p a).2.2.1
 simp only [Vl.depth,HJ];omega
theorem Yk {v:Vl} (h:v.kind≠0):BO v=false:=by rw [BO,decide_eq_false h];simp
theorem Jh {o:Option (List (ByteArray × Vl))} {acc:List (ByteArray × Vl)} {x:ByteArray × Vl}:(o.map fun l=>Vl.mk 9 0 0 ⟨#[]⟩ [] (BG ((acc++[x])++l)))=(o.map fun l=>[x]++l).map fun l=>Vl.mk 9 0 0 ⟨#[]⟩ [] (BG (acc++l)):=by
 cases o with
 | none=>rfl
 | some l=>simp only [Option.map_some,List.append_assoc]
theorem QP {o:Option (List (ByteArray × Vl))}:(o.map fun l=>[]++l)=o:=by cases o<;>rfl
structure RecH (rec:Ty→Ty→Vl→Option (Vl × Bool)) (n D:Nat) (a b:Ty) (v:Vl) (f:Ty→Ty→Vl→Option Vl):Prop where
 vk:v.kind=9
 vl:v.fields.length≤100000000
 al:a.fields.length≤1000000
 bl:b.fields.length≤1000000
 nn:D+2000000000<n
 hD:1≤D
 hc:∀ q∈v.fields,BK n q.2=some q.2
 bn:∀ g∈b.fields,g.2.1.size≤1048576
 hr:∀ g∈b.fields,∀ p,GF a.fields g.1=some p→∀ x,Df v p.2.1=some x→∃ r,rec p.2.2.2.1 g.2.2.2.1 x=some r∧Ju D (f p.2.2.2.1 g.2.2.2.1 x) r∧∀ y,f p.2.2.2.1 g.2.2.2.1 x=some y→y.kind≠0
 hd:∀ g∈b.fields,g.2.2.1=3→∃ x,g.2.2.2.2=[x]∧x.Nar∧x.depth≤D∧x.kind≠0
theorem Zga {rec:Ty→Ty→Vl→Option (Vl × Bool)} {n D:Nat} {a b:Ty} {v:Vl} {f:Ty→Ty→Vl→Option Vl} (H:RecH rec n D a b v f):∀ (k m i:Nat) (acc:List (ByteArray × Vl)),i+k=b.fields.length→k<m→Acc D b i acc →
  ∃ r,Ax rec n a b v m acc i=some r∧Ju (D+1) ((NP f a v (b.fields.drop i)).map fun l=>Vl.mk 9 0 0 ⟨#[]⟩ [] (BG (acc++l))) r
 | k,0,i,acc,_,h,_=>absurd h (Nat.not_lt_zero _)
 | 0,m+1,i,acc,hi,_,ha=>by
  have O:=H.bl
  have E:=H.nn
  have N:=ha.len
  obtain ⟨z,w⟩:=ha.ok (by omega)
  rw [Ax,An,decide_eq_false (by omega),if_neg (by decide),D2,Yg n D acc (by omega) (by omega) (fun p hp=>Yk (ha.each p hp).2.2.2) ha.names z w,List.drop_eq_nil_of_le (by omega),NP,Option.map_some,List.append_nil]
  exact ⟨_,rfl,rfl,z,w⟩
 | k+1,m+1,i,acc,hi,hm,ha=>by
  have d:i<b.fields.length:=by omega
  have j:=List.getElem_mem d
  have O:=H.bl
  have K:=H.al
  have E:=H.nn
  have V:=H.vl
  have N:=ha.len
  have s:∀ c,Acc D b (i+1) c→∃ r,AX rec n (Ax rec n a b v m) i c=some r∧Ju (D+1) ((NP f a v (b.fields.drop (i+1))).map fun l=>Vl.mk 9 0 0 ⟨#[]⟩ [] (BG (c++l))) r:=fun c h=>by
   obtain ⟨r,e,u⟩:=Zga H k m (i+1) c (by omega) (by omega) h
   rw [AX,if_pos (Ar (by omega))]
   exact ⟨r,e,u⟩
  rw [Ax,An,decide_eq_true d,if_pos rfl,Au d,Option.bind_some,Ti n a.fields _ (by omega) (by omega),Option.bind_some,Yq n v _ H.vk (by omega) (by omega) H.hc,Option.bind_some,List.drop_eq_getElem_cons d,NP]
  have g:MM f a v b.fields[i]=Vu b.fields[i]→∃ r,(if decide (b.fields[i].2.2.1=1)=true then some (Vl.mk 0 0 0 ⟨#[]⟩ [] [],false) else if decide (b.fields[i].2.2.1=3)=true then (Cb b.fields[i].2.2.2.2 0).bind fun t=>if (acc.length+1)*104≤140737488355328∧acc.length+1≤4611686018427387904 then AX rec n (Ax rec n a b v m) i (acc++[(b.fields[i].2.1,t)]) else none else AX rec n (Ax rec n a b v m) i acc)=some r∧Ju (D+1) (((MM f a v b.fields[i]).bind fun o=>(NP f a v (b.fields.drop (i+1))).map fun l=>o++l).map fun l=>Vl.mk 9 0 0 ⟨#[]⟩ [] (BG (acc++l))) r:=fun q=>by
   rw [q,Vu]
   by_cases c1:b.fields[i].2.2.1=1
   ·rw [decide_eq_true c1,if_pos rfl,if_pos c1]
    exact ⟨_,rfl,Jn (by omega) rfl⟩
   rw [decide_eq_false c1,if_neg (by decide),if_neg c1]
   by_cases c3:b.fields[i].2.2.1=3
   ·obtain ⟨x,hx,C,G,F⟩:=H.hd _ j c3
    rw [decide_eq_true c3,if_pos rfl,if_pos c3,hx,show Cb [x] 0=some x from rfl,Option.bind_some,if_pos (by omega)]
    obtain ⟨r,e,u⟩:=s _ (ha.push d (H.bn _ j) C G F)
    rw [Jh] at u
    exact ⟨r,e,u⟩
   ·rw [decide_eq_false c3,if_neg (by decide),if_neg c3]
    obtain ⟨r,e,u⟩:=s _ (ha.skip d)
    refine ⟨r,e,?_⟩
    rw [Option.bind_some,QP]
    exact u
  cases hp:GF a.fields b.fields[i].1 with
  | none =>
   rw [if_neg (by simp)]
   exact g (by rw [MM,hp])
  | some p =>
   simp only [Option.getD_some,Option.isSome_some,Bool.true_and]
   cases hx:Df v p.2.1 with
   | none =>
    rw [if_neg (by simp)]
    exact g (by rw [MM,hp];simp only [hx])
   | some x =>
    obtain ⟨r,e,⟨u1,U,Q⟩,J⟩:=H.hr _ j p hp x hx
    have ef:MM f a v b.fields[i]=(f p.2.2.2.1 b.fields[i].2.2.2.1 x).map fun y=>[(b.fields[i].2.1,y)]:=by rw [MM,hp];simp only [hx]
    rw [if_pos Option.isSome_some,Option.getD_some,e,Option.bind_some,ef]
    cases q:f p.2.2.2.1 b.fields[i].2.2.2.1 x with
    | none =>
     rw [q] at u1
     simp only at u1
     rw [u1,if_pos (by rfl)]
     exact ⟨_,rfl,Jn (by omega) rfl⟩
    | some y =>
     rw [q] at u1
     simp only at u1
     subst u1
     rw [if_neg (by simp),if_pos (by omega)]
     obtain ⟨r,e,u⟩:=s _ (ha.push d (H.bn _ j) U Q (J y q))
     rw [Jh] at u
     exact ⟨r,e,u⟩
theorem ZaD {rec:Ty→Ty→Vl→Option (Vl × Bool)} {n D:Nat} {a b:Ty} {v:Vl} {f:Ty→Ty→Vl→Option Vl} (H:RecH rec n D a b v f):∀ (k m i:Nat) (acc:List (ByteArray × Vl)),i+k=b.fields.length→k<m→Acc D b i acc →
  ∃ r,Em rec n a b v m i (BG acc)=some r∧Ju (D+1) ((NP f a v (b.fields.drop i)).map fun l=>Vl.mk 9 0 0 ⟨#[]⟩ [] (BG (acc++l))) r
 | k,0,i,acc,_,h,_=>absurd h (Nat.not_lt_zero _)
 | 0,m+1,i,acc,hi,_,ha=>by
  have N:=H.bl
  obtain ⟨U,J⟩:=ha.ok (by omega)
  rw [Em,An,decide_eq_false (by omega),if_neg (by decide),OX,List.drop_eq_nil_of_le (by omega),NP,Option.map_some,List.append_nil]
  exact ⟨_,rfl,rfl,U,J⟩
 | k+1,m+1,i,acc,hi,hm,ha=>by
  have c:i<b.fields.length:=by omega
  have j:=List.getElem_mem c
  have N:=H.bl
  have K:=H.al
  have Y:=H.nn
  have V:=H.vl
  have Z:=ha.len
  have t:∀ y,GZ n (BG acc) (b.fields[i].2.1,y)=some (BG (acc++[(b.fields[i].2.1,y)])):=fun y=>by
   rw [Zbn n (BG acc) (b.fields[i].2.1,y) (Qg acc ha.names) (ha.new c) (by rw [Gk];omega) (by rw [Gk];omega),ha.sort c y]
  have w:∀ d,Acc D b (i+1) d→∃ r,Hi rec n (Em rec n a b v m) i (BG d)=some r∧Ju (D+1) ((NP f a v (b.fields.drop (i+1))).map fun l=>Vl.mk 9 0 0 ⟨#[]⟩ [] (BG (d++l))) r:=fun d h=>by
   obtain ⟨r,e,u⟩:=ZaD H k m (i+1) d (by omega) (by omega) h
   rw [Hi,if_pos (Ar (by omega))]
   exact ⟨r,e,u⟩
  rw [Em,An,decide_eq_true c,if_pos rfl,Au c,Option.bind_some,Lc n a _ (by omega) (by omega),Option.bind_some,Zbj n v _ (by omega) (by omega),Option.bind_some,List.drop_eq_getElem_cons c,NP]
  have g:MM f a v b.fields[i]=Vu b.fields[i]→∃ r,(if decide (b.fields[i].2.2.1=1)=true then some (Vl.mk 0 0 0 ⟨#[]⟩ [] [],false) else if decide (b.fields[i].2.2.1=3)=true then (Cb b.fields[i].2.2.2.2 0).bind fun z=>(GZ n (BG acc) (b.fields[i].2.1,z)).bind fun s=>Hi rec n (Em rec n a b v m) i s else Hi rec n (Em rec n a b v m) i (BG acc))=some r∧Ju (D+1) (((MM f a v b.fields[i]).bind fun o=>(NP f a v (b.fields.drop (i+1))).map fun l=>o++l).map fun l=>Vl.mk 9 0 0 ⟨#[]⟩ [] (BG (acc++l))) r:=fun q=>by
   rw [q,Vu]
   by_cases c1:b.fields[i].2.2.1=1
   ·rw [decide_eq_true c1,if_pos rfl,if_pos c1]
    exact ⟨_,rfl,Jn (by omega) rfl⟩
   rw [decide_eq_false c1,if_neg (by decide),if_neg c1]
   by_cases c3:b.fields[i].2.2.1=3
   ·obtain ⟨x,hx,C,F,E⟩:=H.hd _ j c3
    rw [decide_eq_true c3,if_pos rfl,if_pos c3,hx,show Cb [x] 0=some x from rfl,Option.bind_some,t,Option.bind_some]
    obtain ⟨r,e,u⟩:=w _ (ha.push c (H.bn _ j) C F E)
    rw [Jh] at u
    exact ⟨r,e,u⟩
   ·rw [decide_eq_false c3,if_neg (by decide),if_neg c3]
    obtain ⟨r,e,u⟩:=w _ (ha.skip c)
    refine ⟨r,e,?_⟩
    rw [Option.bind_some,QP]
    exact u
  cases hp:GF a.fields b.fields[i].1 with
  | none =>
   rw [if_neg (by simp)]
   exact g (by rw [MM,hp])
  | some p =>
   simp only [Option.getD_some,Option.isSome_some,Bool.true_and]
   cases hx:Df v p.2.1 with
   | none =>
    rw [if_neg (by simp)]
    exact g (by rw [MM,hp];simp only [hx])
   | some x =>
    obtain ⟨r,e,⟨u1,Q,O⟩,G⟩:=H.hr _ j p hp x hx
    have ef:MM f a v b.fields[i]=(f p.2.2.2.1 b.fields[i].2.2.2.1 x).map fun y=>[(b.fields[i].2.1,y)]:=by rw [MM,hp];simp only [hx]
    rw [if_pos Option.isSome_some,Option.getD_some,e,Option.bind_some,ef]
    cases q:f p.2.2.2.1 b.fields[i].2.2.2.1 x with
    | none =>
     rw [q] at u1
     simp only at u1
     rw [u1,if_pos (by rfl)]
     exact ⟨_,rfl,Jn (by omega) rfl⟩
    | some y =>
     rw [q] at u1
     simp only at u1
     subst u1
     rw [if_neg (by simp),t,Option.bind_some]
     obtain ⟨r,e,u⟩:=w _ (ha.push c (H.bn _ j) Q O (G y q))
     rw [Jh] at u
     exact ⟨r,e,u⟩
theorem PR (n:Nat) (t:Ty) (w:ByteArray) (hn:t.size+1450000≤n) (ht:t.small) (hk:t.kind=9∨t.kind=10):I4 n t w=some ((Bj t w).getD Nj,(Bj t w).isSome):=by
 have c:I4 n t w=(Jo n t (fun x=>some (Dz x.2.1 w))).bind fun b=>some (b.1,b.2):=rfl
 have a:Bj t w=Cb t.fields (OJ (fun x:TF=>Dz x.2.1 w) t.fields 0):=Yp _ _
 rw [c]
 rcases ZfA n t (fun x=>Dz x.2.1 w) hn ht with ⟨k1,k2,_⟩ | ⟨_,⟨q1,q2⟩ | ⟨j,hj,q1,q2⟩⟩
 ·omega
 ·rw [q2,a,q1];rfl
 ·rw [q2,a,q1,Au hj];rfl
theorem Ye (rec:Ty→Vl→Option Bool) (d n:Nat) (t:Ty) (v:Vl) (hn:t.size+1450000≤n) (hn2:v.size<n) (hs:v.size≤1000000000) (ht:t.small) (tk:t.kind=9) (vk:v.kind=9)
  (hr:∀ p∈t.fields,∀ q∈v.fields,rec p.2.2.2.1 q.2=some (KH d p.2.2.2.1 q.2)):∀ (k m i:Nat),i+k=v.fields.length→k<m→Ij rec n t v m i=some ((v.fields.drop i).all (Zkk d t) && !(t.fields.any (ZaP v)))
 | k,0,i,_,h=>absurd h (Nat.not_lt_zero _)
 | 0,m+1,i,hi,_=>by
  have j:=t.lens.2
  have b:=ht.1
  have e:=Nn n t.fields (fun x=>J5 n x v) (ZaP v) (fun x _=>by
   obtain ⟨u,g⟩:=Zbh n v x.2.1 vk hs hn2
   rw [J5,g];rfl) (by omega) (by omega)
  rw [Ij,An,decide_eq_false (by omega),if_neg (by decide),O3,e,List.drop_eq_nil_of_le (by omega),List.all_nil,Bool.true_and];rfl
 | k+1,m+1,i,hi,hm=>by
  have a:i<v.fields.length:=by omega
  have f:=O2 v
  have ih:=Ye rec d n t v hn hn2 hs ht tk vk hr k m (i+1) (by omega) (by omega)
  rw [Ij,An,decide_eq_true a,if_pos rfl,Au a,Option.bind_some,PR n t _ hn ht (.inl tk),Option.bind_some,List.drop_eq_getElem_cons a,List.all_cons,Zkk]
  cases c:Bj t v.fields[i].1 with
  | none=>rw [if_pos (by rfl)];rfl
  | some p =>
   rw [if_neg (by simp),Option.getD_some,hr _ (DN c).1 _ (List.getElem_mem a),Option.bind_some]
   simp only
   cases KH d p.2.2.2.1 v.fields[i].2 with
   | false=>rfl
   | true =>
    rw [if_neg (by decide),if_pos (Ar (by omega)),Bool.true_and]
    exact ih
theorem S3:∀ (n d:Nat) (t:Ty) (v:Vl),t.size+1500000≤n→v.size+1500000≤n→v.size≤1000000000→t.small→t.Good→v.Good→t.depth≤d→Jf n t v=some (KH d t v)
 | 0,d,t,v,h,_,_,_,_,_,_=>by omega
 | n+1,0,t,v,_,_,_,_,_,_,hd=>by have:=t.depth_eq;omega
 | n+1,d+1,t,v,h1,h2,h3,ht,gt,gv,hd=>by
  obtain ⟨H,E,J⟩:=RQ (UI gt)
  obtain ⟨_,G⟩:=MN (J4 gv)
  have K:=t.lens
  have z:=ht.1
  have D:=Im v
  have C:=(t.ok_eq.1 ht.2.2).1
  rw [Jf,S1,KH]
  by_cases hk:v.kind=t.kind
  rotate_left
  ·rw [decide_eq_false hk,if_pos (fun q=>hk q.symm)];rfl
  rw [decide_eq_true hk,if_neg (show ¬ (t.kind≠v.kind) from fun q=>q hk.symm)]
  simp only [Bool.not_true,Bool.false_eq_true,if_false]
  have i:t.kind≠3→v.scale=t.scale:=fun q=>by rw [Ty.scale0 E q,Vl.scale0 G (by rw [hk];exact q)]
  rcases G3 H with tk | tk | tk | tk | tk | tk | tk | tk | tk | tk
  ·simp [tk,C4,Qc]
  ·have q:=i (by omega);simp [tk,C4,q]
  ·simp [tk,C4,Bool.and_comm]
  ·have s:=QN n t.words v.text (by omega) (by omega)
   have l:(t.words.any fun x=>Dz v.text x)=t.words.any fun x=>Dz x v.text:=by congr 1;funext x;exact Zbx _ _
   rw [decide_eq_false (show ¬ t.kind=2 by omega),decide_eq_false (show ¬ t.kind=6 by omega),decide_eq_false (show ¬ t.kind=7 by omega),decide_eq_false (show ¬ t.kind=3 by omega)]
   simp only [Bool.false_eq_true,if_false]
   rw [C4,if_neg (by decide),decide_eq_true tk,if_pos rfl,if_neg (show ¬ (t.kind=2∨t.kind=6∨t.kind=7) by omega),if_neg (show ¬ t.kind=3 by omega),if_pos tk]
   by_cases C:0<t.words.length
   ·rw [if_pos (decide_eq_true (by omega)),s,l,decide_eq_false (show ¬ (t.words.length:Int)=0 by omega)]
    simp
   ·rw [if_neg (by rw [decide_eq_true_eq];omega),decide_eq_true (show (t.words.length:Int)=0 by omega)]
    have k:t.words=[]:=List.length_eq_zero_iff.1 (by omega)
    rw [k]
    rfl
  ·simp [tk,C4,WE]
  ·have q:=i (by omega);simp [tk,C4,q]
  ·have q:=i (by omega);simp [tk,C4,q]
  ·obtain ⟨e,r⟩:=gt.own.elem tk
   have f:e∈t.elem:=by rw [r];simp
   have o:Cb t.elem 0=some e:=by rw [r];rfl
   have s:=Xn n v.list (fun x=>J8 (Jf n) x t) (fun x => !KH d e x) (fun x j=>by
    have a:=t.elem_size _ f
    have b:=v.list_size x j
    have c:=Ty.depth_elem f
    rw [J8,o,Option.bind_some,S3 n d e x (by omega) (by omega) (by omega) (Ty.small_elem ht f) (Gt gt f) (HZ gv (by rw [Bt,if_pos (.inl (by omega))];exact j)) (by omega)];rfl) (by omega) (by omega)
   have l:(v.list.all fun x=>t.elem.all fun e=>KH d e x)=v.list.all fun x=>KH d e x:=by
    congr 1;funext x;rw [r];simp
   rw [l]
   simp only [tk,C4]
   simp only [show decide ((8:Int)=2)=false from rfl,show decide ((8:Int)=6)=false from rfl,show decide ((8:Int)=7)=false from rfl,show decide ((8:Int)=3)=false from rfl,show decide ((8:Int)=4)=false from rfl,show decide ((8:Int)=5)=false from rfl,decide_true,Bool.false_eq_true,if_false,if_true]
   rw [s]
   unfold WE
   cases hr:decide (t.min≤(v.list.length:Int))&&decide ((v.list.length:Int)≤t.max) with
   | false=>simp
   | true =>
    simp only [if_true,Option.bind_some,Bool.and_true]
    rw [List.not_any_eq_all_not]
    simp
  ·have w:=Ye (Jf n) d n t v (by omega) (by omega) h3 ht tk (by omega) (fun p g q u=>by
     have a:=t.field_size p g
     have b:=v.field_size q u
     have c:=Ty.depth_field g
     exact S3 n d _ _ (by omega) (by omega) (by omega) (Ty.small_field ht g) (Bv gt g) (HZ gv (by rw [Bt,if_neg (by omega),if_pos (by omega)];exact List.mem_map_of_mem u)) (by omega)) v.fields.length n 0 (by omega) (by omega)
   rw [List.drop_zero] at w
   have m:Ij (Jf n) n t v n 0=_:=w
   simp only [tk,C4]
   simp only [show decide ((9:Int)=2)=false from rfl,show decide ((9:Int)=6)=false from rfl,show decide ((9:Int)=7)=false from rfl,show decide ((9:Int)=3)=false from rfl,show decide ((9:Int)=4)=false from rfl,show decide ((9:Int)=5)=false from rfl,show decide ((9:Int)=8)=false from rfl,show decide ((9:Int)=10)=false from rfl,decide_true,Bool.false_eq_true,if_false,if_true]
   exact m
  ·have y:v.kind=10:=by omega
   obtain ⟨x,j⟩:=Wn gv y
   have e:C4 (Jf n) n t v false=some (match Bj t v.text with
    | some p=>v.list.all fun x=>KH d p.2.2.2.1 x
    | none=>false):=by
    simp only [C4,tk,PR n t _ (show t.size+1450000≤n by omega) ht (.inr tk),Option.bind_some]
    simp only [show decide ((10:Int)=4)=false from rfl,show decide ((10:Int)=5)=false from rfl,show decide ((10:Int)=8)=false from rfl,decide_true,Bool.false_eq_true,if_false,if_true]
    cases c:Bj t v.text with
    | none=>rfl
    | some p =>
     have g:=(DN c).1
     have a:=t.field_size _ g
     have b:=v.list_size x (by rw [j];simp)
     have c:=Ty.depth_field g
     have F:=S3 n d p.2.2.2.1 x (by omega) (by omega) (by omega) (Ty.small_field ht g) (Bv gt g) (HZ gv (by rw [Bt,if_pos (.inr y),j];simp)) (by omega)
     rw [j,if_pos (by rfl),show Cb [x] 0=some x from rfl,Option.bind_some]
     simp [F]
   simp only [tk]
   exact e
theorem ZeY (n:Nat) (t:Ty) (v:Vl) (h1:t.size+1500000≤n) (h2:v.size+1500000≤n) (h3:v.size<1048576) (ht:t.small) (hv:v.ok) (gt:t.Good):Jy n t v=some (decide (N1 v=0)&&KH 12 t v):=by
 rw [Jy,Wp n v (by omega) h3 hv,Option.bind_some]
 by_cases h:N1 v=0
 ·rw [decide_eq_true h,if_pos rfl,S3 n 12 t v h1 h2 (by omega) ht gt (KV h) ht.2.1];rfl
 ·rw [decide_eq_false h,if_neg (by decide)];rfl
def ZaA (P:Prop) (left:Int) (o:Option (Int × Int)):Prop:=∃ e l,o=some (e,l)∧(e=0→0≤l∧l≤left∧P)
theorem ZaO (r:Ty→Int→Int→Option (Int × Int)) (n D:Nat) (t:Ty) (lv:Int) (hlv:0≤lv∧lv≤9) (hn:t.size+2600000≤n) (ht:t.small) (hk:t.kind=9∨t.kind=10) (hg:∀ x∈t.fields,TM t.kind x)
  (hr:∀ p∈t.fields,∀ left,0≤left→left≤4096→ZaA (p.2.2.2.1.Fine D) left (r p.2.2.2.1 (lv+1) left)):∀ (k m i:Nat) (left:Int),i+k=t.fields.length→k<m→0≤left→left≤4096 →
  ZaA (∀ p∈t.fields.drop i,p.2.2.2.1.Fine D∧∀ v∈p.2.2.2.2,N1 v=0∧KH 12 p.2.2.2.1 v=true) left (C7 r n t lv (t.fields.map fun p=>p.2.2.2.1) m i left)
 | k,0,i,_,_,h,_,_=>absurd h (Nat.not_lt_zero _)
 | 0,m+1,i,left,hi,_,h1,h2=>by
  rw [C7,An,decide_eq_false (show ¬ i<(t.fields.map fun p=>p.2.2.2.1).length by rw [List.length_map];omega)]
  refine ⟨0,left,rfl,fun _=>⟨h1,Int.le_refl _,?_⟩⟩
  rw [List.drop_eq_nil_of_le (by omega)];simp
 | k+1,m+1,i,left,hi,hm,h1,h2=>by
  have d:i<t.fields.length:=by omega
  have c:=List.getElem_mem d
  have u:=ht.1
  have hl:=t.lens
  have f:i<(t.fields.map fun p=>p.2.2.2.1).length:=by rw [List.length_map];exact d
  rw [C7,An,decide_eq_true f]
  simp only [if_true,Au f,Au d,Option.bind_some,List.getElem_map]
  rw [if_pos (by unfold BR;omega)]
  obtain ⟨e,l,N,z⟩:=hr _ c left h1 h2
  rw [N,Option.bind_some]
  by_cases h0:e=0
  rotate_left
  ·rw [decide_eq_false h0]
   exact ⟨e,l,rfl,fun q=>absurd q h0⟩
  obtain ⟨H,Q,o⟩:=z h0
  rw [decide_eq_true h0]
  simp only [Bool.not_true,Bool.false_eq_true,if_false]
  rw [if_pos (Ar (by omega))]
  obtain ⟨C,O,s,E⟩:=ZaO r n D t lv hlv hn ht hk hg hr k m (i+1) l (by omega) (by omega) H (by omega)
  have fin:(∀ v∈t.fields[i].2.2.2.2,N1 v=0∧KH 12 t.fields[i].2.2.2.1 v=true)→ZaA (∀ p∈t.fields.drop i,p.2.2.2.1.Fine D∧∀ v∈p.2.2.2.2,N1 v=0∧KH 12 p.2.2.2.1 v=true) left (C7 r n t lv (t.fields.map fun p=>p.2.2.2.1) m ((i:Int)+1) l):=fun hd=>by
   refine ⟨C,O,s,fun q=>?_⟩
   obtain ⟨y,Z,J⟩:=E q
   refine ⟨y,by omega,fun x hx=>?_⟩
   rw [List.drop_eq_getElem_cons d] at hx
   rcases List.mem_cons.1 hx with rfl | hx
   ·exact ⟨o,hd⟩
   ·exact J x hx
  obtain ⟨g1,g2,g3,g4⟩:=hg _ c
  by_cases n3:t.fields[i].2.2.1=3
  ·have G:t.kind=9:=by
    rcases hk with hk | hk
    ·exact hk
    ·have:=g2 hk;omega
   obtain ⟨v,hv⟩:=List.length_eq_one_iff.1 (g3 n3)
   have j:Cb t.fields[i].2.2.2.2 0=some v:=by rw [hv];rfl
   obtain ⟨_,Y,o3,K⟩:=(t.ok_eq.1 ht.2.2).2.2.2 _ c
   obtain ⟨V,U,F⟩:=K v (by rw [hv];simp)
   have a:=t.field_size _ c
   have g:=ZeY n t.fields[i].2.2.2.1 v (by omega) (by omega) (by omega) (Ty.small_field ht c) F o.good
   rw [decide_eq_true G,decide_eq_true n3]
   simp only [if_true,j,Option.bind_some,g]
   cases b:decide (N1 v=0)&&KH 12 t.fields[i].2.2.2.1 v with
   | false=>exact ⟨18,l,rfl,fun q=>absurd q (by decide)⟩
   | true =>
    rw [Bool.and_eq_true,decide_eq_true_eq] at b
    exact fin fun w hw=>by rw [hv,List.mem_singleton] at hw;subst hw;exact b
  ·have hd:t.fields[i].2.2.2.2=[]:=List.length_eq_zero_iff.1 (g4 n3)
   rw [decide_eq_false n3]
   simp only [Bool.false_eq_true,if_false,ite_self]
   exact fin fun w hw=>by rw [hd] at hw;simp at hw
theorem Nv:∀ (n D:Nat) (t:Ty) (lv left:Int),t.size+2600001≤n→t.small→lv=9-(D:Int)→0≤lv→0≤left→left≤4096→ZaA (t.Fine D) left (IX n t lv left)
 | 0,D,t,_,_,h,_,_,_,_,_=>by omega
 | n+1,D,t,lv,left,h,ht,hD,l1,h1,h2=>by
  have J:=t.lens
  have u:=ht.1
  have f:=Ty.fit_of ht (show t.size+2600000≤n by omega)
  rw [IX,ON]
  by_cases c1:left=0
  ·rw [decide_eq_true c1]
   exact ⟨9,left,rfl,fun q=>absurd q (by decide)⟩
  rw [decide_eq_false c1]
  simp only [Bool.false_eq_true,if_false]
  have x:BR (left-1):=by unfold BR;omega
  by_cases c2:8<lv
  ·rw [decide_eq_true c2]
   exact ⟨23,left,rfl,fun q=>absurd q (by decide)⟩
  obtain ⟨d,rfl⟩:∃ d,D=d+1:=⟨D-1,by omega⟩
  rw [decide_eq_false c2]
  simp only [Bool.false_eq_true,if_false,if_pos x]
  rw [ZfQ n t f,Option.bind_some]
  by_cases c3:QH t=0
  rotate_left
  ·rw [decide_eq_false c3]
   exact ⟨QH t,left-1,rfl,fun q=>absurd q c3⟩
  obtain ⟨K,w,C,o,H,F⟩:=TY c3
  rw [decide_eq_true c3]
  simp only [Bool.not_true,Bool.false_eq_true,if_false]
  rw [Za4 n t (by omega) (by omega),Option.bind_some]
  by_cases k8:t.kind=8
  ·obtain ⟨E,_,_⟩:=C k8
   obtain ⟨e,he⟩:∃ e,t.elem=[e]:=List.length_eq_one_iff.1 E
   have s:e∈t.elem:=by rw [he];simp
   have v:=t.elem_size e s
   obtain ⟨n',rfl⟩:∃ k,n=k+2:=⟨n-2,by omega⟩
   obtain ⟨g,i,j,l⟩:=Nv (n'+2) d e (lv+1) (left-1) (by omega) (Ty.small_elem ht s) (by omega) (by omega) (by omega) (by omega)
   have hf0:t.fields=[]:=List.length_eq_zero_iff.1 (o (by omega) (by omega))
   have m:BR (lv+1):=by unfold BR;omega
   rw [Xl,if_pos k8,he,C7,if_pos (by simp),show Cb [e] 0=some e from rfl,Option.bind_some,if_pos m,j,Option.bind_some]
   by_cases c4:g=0
   ·obtain ⟨c,G,w4⟩:=l c4
    subst c4
    rw [decide_eq_false (show ¬ t.kind=9 by omega)]
    simp only [decide_true,Bool.not_true,Bool.false_eq_true,if_false]
    rw [if_pos (by decide),C7,if_neg (by simp)]
    refine ⟨0,i,rfl,fun _=>⟨c,by omega,?_⟩⟩
    exact .mk d t c3 (fun y hy=>by rw [he,List.mem_singleton] at hy;subst hy;exact w4) (fun y hy=>by rw [hf0] at hy;simp at hy) (fun y hy=>by rw [hf0] at hy;simp at hy)
   ·rw [decide_eq_false c4]
    exact ⟨g,i,rfl,fun q=>absurd q c4⟩
  ·rw [Xl,if_neg k8]
   have b:t.elem=[]:=List.length_eq_zero_iff.1 (w k8)
   by_cases k9:t.kind=9∨t.kind=10
   ·rw [if_pos k9]
    obtain ⟨g,i,j,l⟩:=ZaO (IX n) n d t lv ⟨l1,by omega⟩ (by omega) ht k9 F (fun p r a z c=>by
     have:=t.field_size p r
     exact Nv n d p.2.2.2.1 (lv+1) a (by omega) (Ty.small_field ht r) (by omega) (by omega) z c) t.fields.length n 0 (left-1) (by omega) (by omega) (by omega) (by omega)
    refine ⟨g,i,j,fun q=>?_⟩
    obtain ⟨c,G,w4⟩:=l q
    rw [List.drop_zero] at w4
    exact ⟨c,by omega,.mk d t c3 (fun y hy=>by rw [b] at hy;simp at hy) (fun y hy=>(w4 y hy).1) (fun y hy=>(w4 y hy).2)⟩
   ·rw [if_neg k9]
    have hf0:t.fields=[]:=List.length_eq_zero_iff.1 (o (by omega) (by omega))
    obtain ⟨n',rfl⟩:∃ k,n=k+1:=⟨n-1,by omega⟩
    rw [C7,if_neg (by simp)]
    exact ⟨0,left-1,rfl,fun _=>⟨by omega,by omega,.mk d t c3 (fun y hy=>by rw [b] at hy;simp at hy) (fun y hy=>by rw [hf0] at hy;simp at hy) (fun y hy=>by rw [hf0] at hy;simp at hy)⟩⟩
theorem ZcE {c:Int} (h:1≤c):1≤(if 4097<c then 4097 else c)∧(if 4097<c then 4097 else c)≤4097:=by split<;>omega
theorem S4:∀ (n:Nat) (t:Ty),t.size+10≤n→t.small→t.Good→∃ a,DT n t=some a∧1≤a∧a≤4097
 | 0,t,h,_,_=>by omega
 | n+1,t,h,ht,gt=>by
  have Z:=t.lens
  have z:=ht.1
  obtain ⟨f1,U,E,H,D,G⟩:=TY (UI gt)
  rw [DT,Jk]
  by_cases k8:t.kind=8
  ·obtain ⟨z1,K,Y⟩:=E k8
   have s:Cb t.elem 0=some t.elem[0]:=Au (k:=0) (by omega)
   rw [decide_eq_true k8,if_pos rfl]
   by_cases l:0<t.min
   ·have d:=List.getElem_mem (show 0<t.elem.length by omega)
    have:=t.elem_size _ d
    obtain ⟨a,j,y,w⟩:=S4 n t.elem[0] (by omega) (Ty.small_elem ht d) (Gt gt d)
    have v:0≤t.min*a:=Int.mul_nonneg (by omega) (by omega)
    have r:0≤(256-t.min)*a:=Int.mul_nonneg (by omega) (by omega)
    rw [Int.sub_mul] at r
    rw [decide_eq_true l,if_pos rfl,s,Option.bind_some,j,Option.bind_some,if_pos (by unfold BR;omega),if_pos (by unfold BR;omega)]
    exact ⟨_,rfl,ZcE (by omega)⟩
   ·rw [decide_eq_false l,if_neg (by decide)]
    exact ⟨_,rfl,ZcE (by omega)⟩
  rw [decide_eq_false k8,if_neg (by decide)]
  by_cases k10:t.kind=10
  ·have x:=D k10
   have f:=List.getElem_mem x
   have:=t.field_size _ f
   obtain ⟨a,j,y,w⟩:=S4 n t.fields[0].2.2.2.1 (by omega) (Ty.small_field ht f) (Bv gt f)
   rw [decide_eq_true k10,if_pos rfl,show Cb t.fields 0=some t.fields[0] from Au (k:=0) x,Option.bind_some,j,Option.bind_some,if_pos (by unfold BR;omega)]
   exact ⟨_,rfl,ZcE (by omega)⟩
  rw [decide_eq_false k10,if_neg (by decide)]
  by_cases k9:t.kind=9
  ·rw [decide_eq_true k9,if_pos rfl]
   have g:∀ (k m i:Nat) (a:Int),i+k=t.fields.length→k<m→1≤a→a≤2000000*(i+1)→∃ a',BP (DT n) n t m a i=some a'∧1≤a'∧a'≤4097:=by
    intro k
    induction k with
    | zero =>
     intro m i a C l o _
     obtain ⟨m,rfl⟩:∃ q,m=q+1:=⟨m-1,by omega⟩
     rw [BP,An,decide_eq_false (show ¬ i<t.fields.length by omega)]
     exact ⟨_,rfl,ZcE o⟩
    | succ k ih =>
     intro m i a C l o h3
     obtain ⟨m,rfl⟩:∃ q,m=q+1:=⟨m-1,by omega⟩
     have e:i<t.fields.length:=by omega
     have b:=List.getElem_mem e
     have a1:=t.field_size _ b
     have p:∀ c:Int,1≤c→c≤2000000*((i:Int)+1+1)→∃ a',Eb (DT n) n (BP (DT n) n t m) i c=some a'∧1≤a'∧a'≤4097:=fun c v r=>by
      rw [Eb,if_pos (Ar (by omega))]
      exact ih m (i+1) c (by omega) (by omega) v (by push_cast;exact r)
     rw [BP,An,decide_eq_true e,if_pos rfl,Au e,Option.bind_some]
     by_cases n1:t.fields[i].2.2.1=1
     ·obtain ⟨c,j,y,w⟩:=S4 n t.fields[i].2.2.2.1 (by omega) (Ty.small_field ht b) (Bv gt b)
      rw [decide_eq_true n1,if_pos rfl,j,Option.bind_some,if_pos (by unfold BR;omega)]
      exact p _ (by omega) (by omega)
     rw [decide_eq_false n1,if_neg (by decide)]
     by_cases n3:t.fields[i].2.2.1=3
     ·have hd:=(G _ b).2.2.1 n3
      have u:Cb t.fields[i].2.2.2.2 0=some t.fields[i].2.2.2.2[0]:=Au (k:=0) (by omega)
      obtain ⟨_,V,o3,F⟩:=(t.ok_eq.1 ht.2.2).2.2.2 _ b
      obtain ⟨Q,N,O⟩:=F _ (List.getElem_mem (show 0<t.fields[i].2.2.2.2.length by omega))
      have J:=PT _ t.fields[i].2.2.2.2[0] 1 (Nat.le_refl _)
      rw [decide_eq_true n3,if_pos rfl,u,Option.bind_some,X7 _ (by omega),Option.bind_some,if_pos (by unfold BR;omega)]
      exact p _ (by omega) (by omega)
     ·rw [decide_eq_false n3,if_neg (by decide)]
      exact p a o (by omega)
   exact g t.fields.length n 0 1 (by omega) (by omega) (by decide) (by decide)
  ·rw [decide_eq_false k9,if_neg (by decide)]
   exact ⟨_,rfl,ZcE (by omega)⟩
theorem WL:∀ (n:Nat) (t:Ty),t.size+11≤n→t.small→t.Good→∃ a,C6 n t=some a
 | 0,t,h,_,_=>by omega
 | n+1,t,h,ht,gt=>by
  have r:=t.lens
  have l:=ht.1
  obtain ⟨a,p,_,_⟩:=S4 n t (by omega) ht gt
  have f:∀ (k m i:Nat) (a:Int),i+k=t.fields.length→k<m→∃ a',CZ (C6 n) n t m a i=some a':=by
   intro k
   induction k with
   | zero =>
    intro m i a g e
    obtain ⟨m,rfl⟩:∃ q,m=q+1:=⟨m-1,by omega⟩
    rw [CZ,An,decide_eq_false (show ¬ i<t.fields.length by omega)]
    exact ⟨_,rfl⟩
   | succ k ih =>
    intro m i a g e
    obtain ⟨m,rfl⟩:∃ q,m=q+1:=⟨m-1,by omega⟩
    have d:i<t.fields.length:=by omega
    have b:=List.getElem_mem d
    have a1:=t.field_size _ b
    obtain ⟨c,j⟩:=WL n t.fields[i].2.2.2.1 (by omega) (Ty.small_field ht b) (Bv gt b)
    rw [CZ,An,decide_eq_true d,if_pos rfl,Au d,Option.bind_some,j,Option.bind_some,if_pos (Ar (by omega))]
    exact ih m (i+1) _ (by omega) (by omega)
  have o:∀ (k m i:Nat) (a:Int),i+k=t.elem.length→k<m→∃ a',Dk (C6 n) n t m a i=some a':=by
   intro k
   induction k with
   | zero =>
    intro m i a g e
    obtain ⟨m,rfl⟩:∃ q,m=q+1:=⟨m-1,by omega⟩
    rw [Dk,An,decide_eq_false (show ¬ i<t.elem.length by omega)]
    exact f t.fields.length n 0 a (by omega) (by omega)
   | succ k ih =>
    intro m i a g e
    obtain ⟨m,rfl⟩:∃ q,m=q+1:=⟨m-1,by omega⟩
    have d:i<t.elem.length:=by omega
    have b:=List.getElem_mem d
    have a1:=t.elem_size _ b
    obtain ⟨c,j⟩:=WL n t.elem[i] (by omega) (Ty.small_elem ht b) (Gt gt b)
    rw [Dk,An,decide_eq_true d,if_pos rfl,Au d,Option.bind_some,j,Option.bind_some,if_pos (Ar (by omega))]
    exact ih m (i+1) _ (by omega) (by omega)
  rw [C6,Hy,p,Option.bind_some]
  exact o t.elem.length n 0 a (by omega) (by omega)
theorem RY (n:Nat) (t:Ty) (hn:3000000≤n) (ht:t.small):∃ c,EQ n t=some c∧(c=0→t.Fine 8):=by
 have f:=ht.1
 obtain ⟨e,l,d,i⟩:=Nv n 8 t 1 4096 (by omega) ht (by decide) (by decide) (by decide) (by decide)
 rw [EQ,d,Option.bind_some]
 by_cases h:e=0
 ·obtain ⟨_,_,g⟩:=i h
  obtain ⟨a,b⟩:=WL n t (by omega) ht g.good
  rw [decide_eq_true h,if_neg (by decide),b,Option.bind_some]
  by_cases c:4096<a
  ·rw [decide_eq_true c]
   exact ⟨9,rfl,fun q=>absurd q (by decide)⟩
  ·rw [decide_eq_false c]
   exact ⟨0,rfl,fun _=>g⟩
 ·rw [decide_eq_false h]
  exact ⟨e,rfl,fun q=>absurd q h⟩
theorem Zdj:∀ (d:Nat) (a b:Ty) (v y:Vl),1≤b.kind→v.kind≠0→Tn d a b v=some y→y.kind≠0
 | 0,a,b,v,y,_,_,h=>by simp [Tn] at h
 | d+1,a,b,v,y,hb,hv,h=>by
  rw [Tn] at h
  split at h
  ·obtain ⟨m,_,h⟩:=Option.bind_eq_some_iff.1 h
   split at h
   ·cases h;show b.kind≠0;omega
   ·cases h
  split at h
  ·cases h
  split at h
  ·split at h
   ·cases h;exact hv
   ·cases h
  split at h
  ·split at h
   ·cases h;exact hv
   ·cases h
  split at h
  ·split at h
   ·cases h;exact hv
   ·cases h
  split at h
  ·split at h
   ·obtain ⟨m,_,h⟩:=Option.bind_eq_some_iff.1 h
    split at h
    ·cases h;simp [Vl.kind]
    ·cases h
   ·cases h
  split at h
  ·obtain ⟨m,_,h⟩:=Option.map_eq_some_iff.1 h
   cases h;simp [Vl.kind]
  split at h
  ·split at h
   ·split at h
    ·obtain ⟨m,_,h⟩:=Option.map_eq_some_iff.1 h
     cases h;simp [Vl.kind]
    ·cases h
   ·cases h
  ·cases h;exact hv
theorem Qn:∀ {d:Nat} {t:Ty} {v:Vl},EI d t v=true→v.kind=t.kind∧1≤t.kind∧t.kind≤10∧A5 v=true
 | 0,t,v,h=>by simp [EI] at h
 | d+1,t,v,h=>by
  rw [EI] at h
  by_cases c:(t.kind<1∨10<t.kind)∨v.kind≠t.kind∨A5 v=false
  ·rw [if_pos c] at h;cases h
  ·have q:v.kind=t.kind:=by
    by_cases q:v.kind=t.kind
    ·exact q
    ·exact absurd (.inr (.inl q)) c
   have w:A5 v=true:=by
    cases w:A5 v with
    | true=>rfl
    | false=>exact absurd (.inr (.inr w)) c
   have z:¬ (t.kind<1∨10<t.kind):=fun z=>c (.inl z)
   exact ⟨q,by omega,by omega,w⟩
theorem O6 {t:Ty} (h:0≤Aw t):t.kind=2∨t.kind=3:=by
 rw [Aw] at h
 by_cases a:t.kind=2
 ·exact .inl a
 rw [decide_eq_false a,if_neg (by decide)] at h
 by_cases b:t.kind=3
 ·exact .inr b
 rw [decide_eq_false b,if_neg (by decide)] at h
 omega
theorem QO {t:Ty} (o:t.Own) (h:t.kind=2∨t.kind=3):Aw t=t.scale:=by
 rw [Aw]
 by_cases a:t.kind=2
 ·rw [decide_eq_true a,if_pos rfl,o.noscale (by omega)]
 ·rw [decide_eq_false a,if_neg (by decide),decide_eq_true (by omega),if_pos rfl]
theorem S9 {t:Ty} (o:t.Own) (h:t.kind=2∨t.kind=3) : -999999999999999≤t.min∧t.max≤999999999999999:=by
 obtain ⟨a,b,_⟩:=o.bounds (by omega) (by omega)
 have e:AG t.kind=(-999999999999999,999999999999999):=by rcases h with h | h<;>rw [h]<;>decide
 rw [e] at a b
 exact ⟨a,b⟩
theorem Jl {n:Int} {t:Ty}:Lp n t=true↔t.min≤n∧n≤t.max:=by rw [Lp,Bool.and_eq_true,decide_eq_true_eq,decide_eq_true_eq]
theorem ZhA (n D:Nat) (a b:Ty) (x:Int) (oa:a.Own) (ob:b.Own) (hD:1≤D) (hn:200<n) (ha:a.kind=2∨a.kind=3) (hb:b.kind=2∨b.kind=3) (hx:Lp x a=true) :
  ∃ r1 r2,((Da n x a.scale b.scale).bind fun y17=>some (Vl.mk b.kind y17.1 b.scale ⟨#[]⟩ [] [],y17.2&&A8 y17.1 b))=some r1∧((EY n x (b.scale-a.scale)).bind fun y7=>some (Vl.mk b.kind y7.1 b.scale ⟨#[]⟩ [] [],y7.2&&AU y7.1 b))=some r2 ∧
   Ju D ((KT x a.scale b.scale).bind fun m=>if Lp m b=true then some (Vl.mk b.kind m b.scale ⟨#[]⟩ [] []) else none) r1∧Ju D ((KT x a.scale b.scale).bind fun m=>if Lp m b=true then some (Vl.mk b.kind m b.scale ⟨#[]⟩ [] []) else none) r2:=by
 have d:=S9 oa ha
 have g:=S9 ob hb
 have f:=oa.scale
 have i:=ob.scale
 have hx:=Jl.1 hx
 have z:(⟨#[]⟩:ByteArray).size≤1048576:=by decide
 obtain ⟨y,c,hsh⟩:=UY n x a.scale b.scale (by omega) (by omega) (by omega) hn
 rw [PK n x a.scale b.scale (by omega) (by omega) (by omega) hn,Option.bind_some,c,Option.bind_some]
 refine ⟨_,_,rfl,rfl,?_⟩
 cases q:KT x a.scale b.scale with
 | none =>
  rw [q] at hsh
  have e:(y.2&&AU y.1 b)=false:=by
   rcases hsh with h | ⟨h,h2⟩
   ·rw [h];rfl
   ·rw [h,Bool.true_and,Bool.eq_false_iff]
    intro w
    have:Lp y.1 b=true:=w
    rw [Jl] at this
    omega
  exact ⟨⟨rfl,NW _ _ _ _ z,by rw [Ky];exact hD⟩,⟨e,NW _ _ _ _ z,by rw [Ky];exact hD⟩⟩
 | some m =>
  rw [q] at hsh
  have hsh:y=(m,true):=hsh
  subst hsh
  refine ⟨?_,?_⟩
  ·exact Pn (NW _ _ _ _ z) (by rw [Ky];exact hD)
  ·exact Pn (NW _ _ _ _ z) (by rw [Ky];exact hD)
theorem Sj (q:TF→Bool) (w:ByteArray):∀ l:List TF,(l.map fun p=>p.2.1).Nodup→l.find? (fun p=>Dz p.2.1 w&&q p)=match l.find? (fun p=>Dz p.2.1 w) with | none=>none | some p=>if q p=true then some p else none
 | [],_=>rfl
 | p::r,h=>by
  rw [List.map_cons,List.nodup_cons] at h
  rw [List.find?_cons,List.find?_cons]
  cases c:Dz p.2.1 w with
  | false=>rw [Bool.false_and];exact Sj q w r h.2
  | true =>
   rw [Bool.true_and]
   cases z:q p with
   | true=>simp [z]
   | false =>
    simp only [z,Bool.false_eq_true,if_false]
    rw [List.find?_eq_none]
    intro x b a
    rw [Bool.and_eq_true,EE] at a
    exact h.1 (List.mem_map.2 ⟨x,b,by rw [a.1,(EE _ _).1 c]⟩)
theorem Zal (rec:Ty→Ty→Vl→Option (Vl × Bool)) (n:Nat) (a b:Ty) (v:Vl) (ha:a.fields.length≤1000000000) (hb:b.fields.length≤1000000000) (hn:b.fields.length<n):∀ (k m i:Nat),i+k=a.fields.length→k<m →
  Jb rec n a b v m i=match (a.fields.drop i).find? (fun p=>Dz p.2.1 v.text&&(GF b.fields p.1).isSome) with
   | none=>some (nilV,false)
   | some p=>(Cb v.list 0).bind fun x=>(rec p.2.2.2.1 ((GF b.fields p.1).getD Nj).2.2.2.1 x).bind fun y=>some (Vl.mk 10 0 0 ((GF b.fields p.1).getD Nj).2.1 [y.1] [],y.2)
 | k,0,i,_,h=>absurd h (Nat.not_lt_zero _)
 | 0,m+1,i,hi,_=>by
  rw [Jb,An,decide_eq_false (by omega),if_neg (by decide),List.drop_eq_nil_of_le (by omega)];rfl
 | k+1,m+1,i,hi,hm=>by
  have d:i<a.fields.length:=by omega
  rw [Jb,An,decide_eq_true d,if_pos rfl,Au d,Option.bind_some,Lc n b _ hb hn,Option.bind_some,List.drop_eq_getElem_cons d,List.find?_cons]
  cases c:Dz a.fields[i].2.1 v.text&&(GF b.fields a.fields[i].1).isSome with
  | true =>
   rw [if_neg (by rw [←Bool.not_and,c];decide)]
  | false =>
   rw [if_pos (by rw [←Bool.not_and,c];rfl),if_pos (Ar (by omega))]
   exact Zal rec n a b v ha hb hn k m (i+1) (by omega) (by omega)
theorem MK {a b:Int} (h:a=b∨((a=2∨a=3)∧(b=2∨b=3))):Di a b=true:=by
 simp only [Di,DD,Bool.or_eq_true,Bool.and_eq_true,decide_eq_true_eq]
 exact h
theorem U9 {a b:Int} (h:¬ a=b) (h2:¬ ((a=2∨a=3)∧(b=2∨b=3))):Di a b=false:=by
 rw [Bool.eq_false_iff]
 intro q
 simp only [Di,DD,Bool.or_eq_true,Bool.and_eq_true,decide_eq_true_eq] at q
 exact q.elim h h2
theorem J3 {D:Nat} {o:Option Vl} {A B:Option (Vl × Bool)} {r1 r2:Vl × Bool} (h1:A=some r1) (h2:B=some r2) (h3:Ju D o r1) (h4:Ju D o r2):∃ r1 r2,A=some r1∧B=some r2∧Ju D o r1∧Ju D o r2:=⟨r1,r2,h1,h2,h3,h4⟩
theorem Yc:∀ (d n K e:Nat) (a b:Ty) (v:Vl),a.small→b.small→a.Good→b.Fine e→v.Nar→v.depth≤K→EI d a v=true→K+3100000000+d<n →
  ∃ r1 r2,Az n a b v=some r1∧Hk n a b v=some r2∧Ju (K+1048576) (Tn d a b v) r1∧Ju (K+1048576) (Tn d a b v) r2
 | 0,n,K,e,a,b,v,_,_,_,_,_,_,h,_=>by simp [EI] at h
 | d+1,0,K,e,a,b,v,_,_,_,_,_,_,_,h=>absurd h (by omega)
 | d+1,n+1,K,0,a,b,v,_,_,_,h,_,_,_,_=>by cases h
 | d+1,n+1,0,e+1,a,b,v,_,_,_,_,_,h,_,_=>by have:=v.depth_eq;omega
 | d+1,n+1,K+1,e+1,a,b,v,sa,sb,ga,fb,hv,hvd,i,hn=>by
  have oa:=ga.own
  have H:=fb.good.own
  have la:=a.lens
  have lb:=b.lens
  have ak:=sa.1
  have aj:=sb.1
  obtain ⟨v1,v2,v3,v4,v5⟩:=hv.inv
  obtain ⟨hk,_,_,ag⟩:=Qn i
  have c0:¬ ((a.kind<1∨10<a.kind)∨v.kind≠a.kind∨A5 v=false):=by
   rintro (q | q | q)
   ·omega
   ·exact q hk
   ·rw [ag] at q;cases q
  rw [EI,if_neg c0] at i
  rw [Az,Fv,Hk,S7,Tn]
  by_cases num:(a.kind=2∨a.kind=3)∧(b.kind=2∨b.kind=3)
  ·have f:Lp v.int a=true:=by
    rcases num.1 with q | q
    ·rwa [if_pos (.inl q)] at i
    ·rw [if_neg (by omega),if_pos q,Bool.and_eq_true] at i
     exact i.2
   have J:(if decide (b.kind=2)=true then Bq (Az n) n a b v true else Bq (Az n) n a b v (decide (b.kind=3)))=Bq (Az n) n a b v true:=by
    rcases num.2 with q | q
    ·rw [decide_eq_true q,if_pos rfl]
    ·rw [decide_eq_true q];exact ite_self _
   have s1:=oa.scale
   have s2:=H.scale
   rw [if_pos num,MK (.inr num),if_neg (by decide),J,Bq,if_pos rfl,QO oa num.1,QO H num.2,decide_eq_true s1.1,decide_eq_true s2.1,if_pos (by rfl),if_pos (by unfold BR;omega)]
   exact ZhA n _ a b v.int oa H (by omega) (by omega) num.1 num.2 f
  have ae:(decide (0≤Aw a)&&decide (0≤Aw b))=false:=by
   rw [Bool.eq_false_iff]
   intro q
   rw [Bool.and_eq_true,decide_eq_true_eq,decide_eq_true_eq] at q
   exact num ⟨O6 q.1,O6 q.2⟩
  rw [if_neg num,ae,if_neg (show ¬ (false=true) by decide)]
  by_cases ne:a.kind=b.kind
  rotate_left
  ·rw [if_pos ne,U9 ne num,if_pos (by rfl),decide_eq_false ne,if_pos (by rfl)]
   exact J3 rfl rfl (Jn (by omega) rfl) (Jn (by omega) rfl)
  have af:¬ b.kind=2:=fun q=>num ⟨by omega,.inl q⟩
  have ah:¬ b.kind=3:=fun q=>num ⟨by omega,.inr q⟩
  have t:v.depth≤K+1+1048576:=by omega
  rw [if_neg (show ¬ a.kind≠b.kind from fun q=>q ne),MK (.inl ne),if_neg (show ¬ ((!true)=true) by decide),decide_eq_false af,if_neg (show ¬ (false=true) by decide),decide_eq_false ah,Bq,if_neg (show ¬ (false=true) by decide),decide_eq_true ne,if_neg (show ¬ ((!true)=true) by decide)]
  by_cases k67:b.kind=6∨b.kind=7
  ·have J:(if decide (b.kind=6)=true then Bz (Az n) n a b v true else Bz (Az n) n a b v (decide (b.kind=7)))=Bz (Az n) n a b v true:=by
    rcases k67 with q | q
    ·rw [decide_eq_true q,if_pos rfl]
    ·rw [decide_eq_true q];exact ite_self _
   have O:(if decide (b.kind=6)=true then FD (Hk n) n a b v true else FD (Hk n) n a b v (decide (b.kind=7)))=FD (Hk n) n a b v true:=by
    rcases k67 with q | q
    ·rw [decide_eq_true q,if_pos rfl]
    ·rw [decide_eq_true q];exact ite_self _
   rw [if_pos k67,J,Bz,if_pos rfl,decide_eq_false (by omega),if_neg (by decide),decide_eq_false (by omega),if_neg (by decide),decide_eq_false (by omega),if_neg (by decide),O,FD,if_pos rfl]
   exact J3 rfl rfl (Pn hv t) (Pn hv t)
  have n6:¬ b.kind=6:=fun q=>k67 (.inl q)
  have n7:¬ b.kind=7:=fun q=>k67 (.inr q)
  rw [if_neg k67,decide_eq_false n6,if_neg (show ¬ (false=true) by decide),decide_eq_false n7,Bz,if_neg (show ¬ (false=true) by decide),if_neg (show ¬ (false=true) by decide)]
  by_cases k5:b.kind=5
  ·rw [if_pos k5,decide_eq_true k5,if_pos rfl,decide_eq_false (by omega),if_neg (by decide),decide_eq_false (by omega),if_neg (by decide),if_pos rfl]
   exact J3 rfl rfl (Pn hv t) (Pn hv t)
  rw [if_neg k5,decide_eq_false k5,if_neg (show ¬ (false=true) by decide),if_neg (show ¬ (false=true) by decide)]
  by_cases k4:b.kind=4
  ·have bw:=(b.ok_eq.1 sb.2.2).1
   rw [if_pos k4,decide_eq_true k4,if_pos rfl,decide_eq_false (show ¬ b.kind=1 by omega),if_neg (show ¬ (false=true) by decide),if_pos rfl,WW n v.text b (by omega) (by omega),Option.bind_some]
   refine J3 (r1:=(v,GY v.text b)) ?_ rfl (Pn hv t) (Pn hv t)
   rw [GY]
   by_cases q:b.words=[]
   ·rw [if_pos q,q,if_neg (by decide)];rfl
   ·have q0:0<b.words.length:=List.length_pos_iff.2 q
    rw [if_neg q,if_pos (by rw [decide_eq_true_eq];omega),Jg n _ b (by omega) (by omega),Option.bind_some]
  rw [if_neg k4,decide_eq_false k4,if_neg (show ¬ (false=true) by decide),if_neg (show ¬ (false=true) by decide)]
  by_cases k8:b.kind=8
  ·obtain ⟨x,f⟩:=oa.elem (by omega)
   obtain ⟨y,N⟩:=H.elem k8
   have j:x∈a.elem:=by rw [f];simp
   have U:y∈b.elem:=by rw [N];simp
   rw [if_neg (by omega),if_neg (by omega),if_neg (by omega),if_neg (by omega),if_pos (by omega),Bool.and_eq_true,List.all_eq_true] at i
   have ab:∀ u∈v.list,EI d x u=true:=fun u s=>by have:=i.2 u s;rw [f] at this;exact this
   have ih:=fun u (s:u∈v.list)=>Yc d n K e x y u (Ty.small_elem sa j) (Ty.small_elem sb U) (Gt ga j) (fb.elem U) (v4 u s) (by have:=Vl.depth_list s;omega) (ab u s) (by omega)
   obtain ⟨r1,J,u1⟩:=Zdv (Az n) n (K+1048576) a b x y v (Tn d x y) f N (by omega) (by omega) (fun u s=>by obtain ⟨r1,r2,w,F,m,D⟩:=ih u s;exact ⟨r1,w,m⟩) v.list.length n 0 [] (by omega) (by omega) rfl (by simp)
   obtain ⟨r2,O,u2⟩:=ZaL (Hk n) n (K+1048576) a b x y v (Tn d x y) f N (by omega) (by omega) (fun u s=>by obtain ⟨r1,r2,w,F,m,D⟩:=ih u s;exact ⟨r2,F,D⟩) v.list.length n 0 [] (by omega) (by omega) rfl (by simp)
   rw [if_pos k8,decide_eq_true k8,if_pos rfl,decide_eq_false (by omega),if_neg (by decide),FD,if_neg (by decide),decide_eq_true k8,if_pos rfl,f,N]
   rw [List.drop_zero] at u1 u2
   exact J3 J O (by rw [Nat.add_right_comm];exact u1) (by rw [Nat.add_right_comm];exact u2)
  rw [if_neg k8,decide_eq_false k8,if_neg (show ¬ (false=true) by decide)]
  by_cases k9:b.kind=9
  ·rw [if_neg (by omega),if_neg (by omega),if_neg (by omega),if_neg (by omega),if_neg (by omega),if_pos (by omega),Bool.and_eq_true,List.all_eq_true] at i
   have fx:∀ p∈a.fields,∀ x,Df v p.2.1=some x→EI d p.2.2.2.1 x=true:=fun p C x f=>by have:=i.1 p C;rw [f] at this;exact this
   have ih:∀ g∈b.fields,∀ p,GF a.fields g.1=some p→∀ x,Df v p.2.1=some x→(∃ r1 r2,Az n p.2.2.2.1 g.2.2.2.1 x=some r1∧Hk n p.2.2.2.1 g.2.2.2.1 x=some r2∧Ju (K+1048576) (Tn d p.2.2.2.1 g.2.2.2.1 x) r1∧Ju (K+1048576) (Tn d p.2.2.2.1 g.2.2.2.1 x) r2)∧∀ y,Tn d p.2.2.2.1 g.2.2.2.1 x=some y→y.kind≠0:=fun g k p C x f=>by
    have l:p∈a.fields:=List.mem_of_find?_eq_some C
    have aa:=fx p l x f
    obtain ⟨q,Q,_,rfl⟩:=Kp f
    have fk:=Qn aa
    have gk:=(Bv fb.good k).own.kind
    exact ⟨Yc d n K e _ _ _ (Ty.small_field sa l) (Ty.small_field sb k) (Bv ga l) (fb.field k) (v5 q Q).2 (by have:=Vl.depth_fld Q;omega) aa (by omega),fun y N=>Zdj d _ _ _ y gk.1 (by omega) N⟩
   have hc:∀ q∈v.fields,BK n q.2=some q.2:=fun q Q=>Ik n q.2 (v5 q Q).2 (by have:=Vl.depth_fld Q;omega)
   have V:=(b.ok_eq.1 sb.2.2).2.2.2
   have ad:∀ g∈b.fields,g.2.2.1=3→∃ x,g.2.2.2.2=[x]∧x.Nar∧x.depth≤K+1048576∧x.kind≠0:=fun g k m=>by
    obtain ⟨x,f⟩:=List.length_eq_one_iff.1 ((H.each g k).2.2.2.2.1 m)
    have j:x∈g.2.2.2.2:=by rw [f];simp
    obtain ⟨z1,z2,z3⟩:=(V g k).2.2.2 x j
    have:=Zaa (KV (fb.dfl k x j).1)
    exact ⟨x,f,OD x.size x (Nat.le_refl _) (by omega) z3,by omega,by omega⟩
   have H1:RecH (Az n) n (K+1048576) a b v (Tn d):=⟨by omega,by omega,by omega,by omega,by omega,by omega,hc,fun g k=>(V g k).1,fun g k p C x f=>by obtain ⟨⟨r1,r2,w,F,m,D⟩,h5⟩:=ih g k p C x f;exact ⟨r1,w,m,h5⟩,ad⟩
   have H2:RecH (Hk n) n (K+1048576) a b v (Tn d):=⟨by omega,by omega,by omega,by omega,by omega,by omega,hc,fun g k=>(V g k).1,fun g k p C x f=>by obtain ⟨⟨r1,r2,w,F,m,D⟩,h5⟩:=ih g k p C x f;exact ⟨r2,F,D,h5⟩,ad⟩
   have A0:Acc (K+1048576) b 0 []:=⟨Nat.le_refl _,by simp,by rw [List.map_nil,List.nil_append,List.drop_zero];exact (J9 _ _ _ H.apart).1⟩
   obtain ⟨r1,J,u1⟩:=Zga H1 b.fields.length n 0 [] (by omega) (by omega) A0
   obtain ⟨r2,O,u2⟩:=ZaD H2 b.fields.length n 0 [] (by omega) (by omega) A0
   rw [show BG []=[] from List.length_eq_zero_iff.1 (by rw [Gk];rfl)] at O
   have ai:Ed (Az n) n a b v=some r1:=J
   rw [if_pos k9,decide_eq_true k9,if_pos rfl,ai,Option.bind_some,decide_eq_false (by omega),if_neg (by decide),FD,if_neg (by decide),decide_eq_false (by omega),if_neg (by decide),decide_eq_false (by omega),if_neg (by decide),OR]
   rw [List.drop_zero] at u1 u2
   exact J3 rfl O (by rw [Nat.add_right_comm];exact u1) (by rw [Nat.add_right_comm];exact u2)
  rw [if_neg k9,decide_eq_false k9,if_neg (show ¬ (false=true) by decide)]
  by_cases k10:b.kind=10
  ·rw [if_neg (by omega),if_neg (by omega),if_neg (by omega),if_neg (by omega),if_neg (by omega),if_neg (by omega),if_pos (by omega)] at i
   rw [if_pos k10,decide_eq_true k10,if_pos rfl,decide_eq_false (by omega),if_neg (by decide),FD,if_neg (by decide),decide_eq_false k8,if_neg (by decide),decide_eq_true k10,if_pos rfl,PR n a v.text (by omega) sa (by omega),Option.bind_some]
   have E:=Zal (Hk n) n a b v (by omega) (by omega) (by omega) a.fields.length n 0 (by omega) (by omega)
   rw [List.drop_zero,Sj (fun p=>(GF b.fields p.1).isSome) v.text a.fields (J9 _ _ _ oa.apart).1] at E
   cases c:Bj a v.text with
   | none=>rw [c] at i;simp at i
   | some p =>
    have c':a.fields.find? (fun p=>Dz p.2.1 v.text)=some p:=c
    cases hl:v.list with
    | nil=>rw [c,hl] at i;simp at i
    | cons x xs =>
     rw [c,hl] at i
     have i:EI d p.2.2.2.1 x=true:=i
     have j:x∈v.list:=by rw [hl];simp
     have l:=(DN c).1
     rw [c',hl] at E
     simp only [Option.getD_some]
     rw [Ti n b.fields _ (by omega) (by omega),Option.bind_some]
     cases g:GF b.fields p.1 with
     | none =>
      simp only [g,Option.isSome_none,Bool.false_eq_true,if_false] at E
      rw [if_pos (by rfl)]
      exact J3 rfl E (Jn (by omega) rfl) (Jn (by omega) rfl)
     | some q =>
      have G:q∈b.fields:=List.mem_of_find?_eq_some g
      simp only [g,Option.isSome_some,if_true,Option.getD_some] at E
      obtain ⟨r1,r2,w,F,m,D⟩:=Yc d n K e p.2.2.2.1 q.2.2.2.1 x (Ty.small_field sa l) (Ty.small_field sb G) (Bv ga l) (fb.field G) (v4 x j) (by have:=Vl.depth_list j;omega) i (by omega)
      have V:=((b.ok_eq.1 sb.2.2).2.2.2 q G).1
      have Y:∀ {o:Option Vl} {r:Vl × Bool},Ju (K+1048576) o r→(Vl.mk 10 0 0 q.2.1 [r.1] []).Nar∧(Vl.mk 10 0 0 q.2.1 [r.1] []).depth≤K+1+1048576:=fun {o r} u=>by
       refine ⟨.mk _ (by simp [Vl.list]) (by simp [Vl.fields]) V (fun z hz=>?_) (by simp [Vl.fields]) (by simp [Vl.fields]),?_⟩
       ·have hz:z∈[r.1]:=hz
        rw [List.mem_singleton] at hz;subst hz;exact u.2.1
       ·have:=u.2.2
        simp only [Vl.depth,HJ,Hj];omega
      have fin:∀ {o:Option Vl} {r:Vl × Bool},Ju (K+1048576) o r→Ju (K+1+1048576) (o.map fun y=>Vl.mk 10 0 0 q.2.1 [y] []) (Vl.mk 10 0 0 q.2.1 [r.1] [],r.2):=fun {o r} u=>by
       obtain ⟨b1,b2⟩:=Y u
       refine ⟨?_,b1,b2⟩
       have u1:=u.1
       cases o with
       | none=>exact u1
       | some y =>
        have u1:r=(y,true):=u1
        subst u1;rfl
      rw [show Cb (x::xs) 0=some x from rfl,Option.bind_some,F,Option.bind_some] at E
      have Z:Jr n q.2.1 r1.1=some (Vl.mk 10 0 0 q.2.1 [r1.1] []):=by
       obtain ⟨b1,b2⟩:=Y m
       rw [Jr,Ik n _ b1 (by omega)];rfl
      rw [if_neg (by simp),show Cb (x::xs) 0=some x from rfl,Option.bind_some,Option.getD_some,w,Option.bind_some,Z,Option.bind_some]
      simp only [g]
      exact J3 rfl E (fin m) (fin D)
  ·have k1:b.kind=1:=by have:=H.kind;omega
   rw [if_neg k10,decide_eq_false k10,if_neg (show ¬ (false=true) by decide),GL,decide_eq_true k1,if_pos rfl]
   exact J3 rfl rfl ⟨rfl,hv,t⟩ ⟨rfl,hv,t⟩
theorem TK:∀ (l:List ByteArray) (o:Option ByteArray),O8 o l=0→∀ w∈l,Fz w=true
 | [],_,_,w,hw=>by simp at hw
 | x::r,o,h,w,hw=>by
  have a:Fz x=true∧O8 (some x) r=0:=by
   by_cases h0:Fz x=true
   ·refine ⟨h0,?_⟩
    cases o with
    | none=>rw [O8,if_pos h0] at h;exact h
    | some p =>
     rw [O8,if_pos h0] at h
     by_cases h1:Dz x p=true
     ·rw [if_pos h1] at h;exact absurd h (by decide)
     rw [if_neg h1] at h
     by_cases h2:Wj x p=true
     ·rw [if_pos h2] at h;exact absurd h (by decide)
     rw [if_neg h2] at h;exact h
   ·cases o with
    | none=>rw [O8,if_neg h0] at h;exact absurd h (by decide)
    | some p=>rw [O8,if_neg h0] at h;exact absurd h (by decide)
  rcases List.mem_cons.1 hw with rfl | hw
  ·exact a.1
  ·exact TK r _ a.2 w hw
structure Vl.Own (v:Vl):Prop where
 kind:1≤v.kind∧v.kind≤10
 nolist:v.kind≠8→v.kind≠10→v.list=[]
 nofields:v.kind≠9→v.fields=[]
 text:v.text.size≤1024
 names:∀ p∈v.fields,p.1.size≤32
theorem Vl.own_of {v:Vl} (h:E3 v=0):v.Own:=by
 obtain ⟨m,c⟩:=MN h
 have i:BO v=false:=ZbN (by omega)
 have n:v.kind≠8→v.kind≠10→v.list=[]:=fun q j=>by
  rcases Nat.eq_zero_or_pos v.list.length with e | e
  ·exact List.length_eq_zero_iff.1 e
  ·exfalso;apply c;rw [B5];simp [q,j];omega
 have d:v.kind≠9→v.fields=[]:=fun q=>by
  rcases Nat.eq_zero_or_pos v.fields.length with e | e
  ·exact List.length_eq_zero_iff.1 e
  ·exfalso;apply c;rw [B5];simp [q];omega
 have k:v.kind≠4→v.kind≠5→v.kind≠10→v.text.size=0:=fun f g l=>by
  cases hs:Dz v.text ⟨#[]⟩ with
  | true=>exact Zbd hs
  | false=>exfalso;apply c;rw [B5];simp [f,g,l,hs]
 rw [E3,i,if_neg (by decide),if_neg m,if_neg c] at h
 have nm:v.kind=9→∀ p∈v.fields,p.1.size≤32:=fun b p a=>by
  rw [if_neg (by omega),if_neg (by omega),if_neg (by omega),if_neg (by omega),if_neg (by omega),if_neg (by omega),if_neg (by omega),if_neg (by omega),if_pos b] at h
  by_cases q:64<v.fields.length
  ·rw [if_pos q] at h;exact absurd h (by decide)
  rw [if_neg q] at h
  exact Zg (TK _ _ h p.1 (List.mem_map_of_mem a))
 refine ⟨by omega,n,d,?_,fun p a=>?_⟩
 ·by_cases k4:v.kind=4
  ·rw [if_neg (by omega),if_neg (by omega),if_neg (by omega),if_pos k4] at h
   by_cases q:1024<v.text.size
   ·rw [if_pos q] at h;exact absurd h (by decide)
   ·omega
  by_cases k5:v.kind=5
  ·rw [if_neg (by omega),if_neg (by omega),if_neg (by omega),if_neg (by omega),if_pos k5] at h
   by_cases q:1024<v.text.size
   ·rw [if_pos q] at h;exact absurd h (by decide)
   ·omega
  by_cases k10:v.kind=10
  ·rw [if_neg (by omega),if_neg (by omega),if_neg (by omega),if_neg (by omega),if_neg (by omega),if_neg (by omega),if_neg (by omega),if_neg (by omega),if_neg (by omega)] at h
   by_cases q:Fz v.text=true
   ·have:=Zg q;omega
   ·rw [if_neg q] at h;exact absurd h (by decide)
  ·have:=k k4 k5 k10;omega
 ·by_cases b:v.kind=9
  ·exact nm b p a
  ·rw [d b] at a;simp at a
theorem Vl.Good.own {v:Vl} (h:v.Good):v.Own:=Vl.own_of (J4 h)
theorem VY:∀ (k:Nat) (v:Vl) (lv:Nat),v.size≤k→v.Good→(E8 lv v).length=v.size
 | 0,v,lv,h,_=>absurd h (by have:=v.size_eq;omega)
 | k+1,v,lv,h,g=>by
  have own:=g.own
  rw [NB,List.length_cons,List.length_flatMap]
  have b:((Bt v).map fun x=>(E8 (lv+1) x).length)=(Bt v).map Vl.size:=List.map_congr_left fun x a=>VY k x (lv+1) (by have:=I2 a;omega) (HZ g a)
  rw [b]
  have c:=v.size_eq
  by_cases k8:v.kind=8∨v.kind=10
  ·rw [Bt,if_pos k8,←Tz]
   rw [own.nofields (by omega)] at c
   simp only [F9] at c
   omega
  by_cases k9:v.kind=9
  ·rw [Bt,if_neg k8,if_pos k9,List.map_map]
   have:=TO v.fields
   have e:(v.fields.map (Vl.size∘fun x=>x.2)).sum=F9 v.fields:=this.symm
   rw [own.nolist (by omega) (by omega)] at c
   simp only [GU] at c
   omega
  ·rw [Bt,if_neg k8,if_neg k9]
   rw [own.nolist (by omega) (by omega),own.nofields k9] at c
   simp only [GU,F9] at c
   simp;omega
theorem Vl.depth_part {v x:Vl} (h:x∈Bt v):x.depth<v.depth:=by
 have e:=v.depth_eq
 rcases OY h with hx | ⟨p,hp,rfl⟩
 ·have:=(HU v.list (HJ v.list)).1 (Nat.le_refl _) x hx;omega
 ·have:=(I0 v.fields (Hj v.fields)).1 (Nat.le_refl _) p hp;omega
theorem Zw (k i s:Int) (t:ByteArray) (L:List Vl) (F:List (ByteArray × Vl)) (B:Nat) (ht:t.size≤1048576) (hL:L.length≤100000000) (hF:F.length≤100000000) (h1:∀ x∈L,x.Nar∧x.depth≤B) (h2:∀ p∈F,p.1.size≤1048576∧p.2.Nar∧p.2.depth≤B):(Vl.mk k i s t L F).Nar∧(Vl.mk k i s t L F).depth≤B+1:=by
 refine ⟨.mk _ hL hF ht (fun x d=>(h1 x d).1) (fun p c=>(h2 p c).1) (fun p c=>(h2 p c).2.1),?_⟩
 have a:=(HU L B).2 fun x d=>(h1 x d).2
 have b:=(I0 F B).2 fun p c=>(h2 p c).2.2
 simp only [Vl.depth];omega
theorem Yf:∀ (ps:List TF) (l:List (ByteArray × Vl)),(OB ps l).length≤l.length+ps.length∧∀ q∈OB ps l,q∈l∨∃ p∈ps,q.1=p.2.1∧q.2∈p.2.2.2.2
 | [],l=>⟨Nat.le_refl _,fun q e => .inl e⟩
 | p::ps,l=>by
  have d:∀ f,f.length≤l.length+1→(∀ q∈f,q∈l∨(q.1=p.2.1∧q.2∈p.2.2.2.2))→(OB ps f).length≤l.length+(p::ps).length∧∀ q∈OB ps f,q∈l∨∃ x∈p::ps,q.1=x.2.1∧q.2∈x.2.2.2.2:=fun f j i=>by
   obtain ⟨a,b⟩:=Yf ps f
   refine ⟨by rw [List.length_cons];omega,fun q e=>?_⟩
   rcases b q e with h | ⟨x,g,h⟩
   ·rcases i q h with h | h
    ·exact .inl h
    ·exact .inr ⟨p,List.mem_cons_self .., h⟩
   ·exact .inr ⟨x,List.mem_cons_of_mem _ g,h⟩
  rw [OB]
  cases c:Zb9 p with
  | none=>exact d l (by omega) fun q e => .inl e
  | some x =>
   have g:x∈p.2.2.2.2:=by
    rw [Zb9] at c
    split at c
    ·exact List.mem_of_getElem? c
    ·cases c
   simp only
   split
   ·exact d l (by omega) fun q e => .inl e
   ·refine d _ (by rw [X6];omega) fun q e=>?_
    rcases List.mem_cons.1 ((Rh l p.2.1 x).mem_iff.1 e) with rfl | h
    ·exact .inr ⟨rfl,g⟩
    ·exact .inl h
theorem Oi:∀ (d:Nat) (t:Ty) (v:Vl),t.small→v.ok→v.size≤1048576→(BZ d t v).Nar∧(BZ d t v).depth≤v.depth+1048576
 | 0,t,v,_,hv,hs=>⟨OD v.size v (Nat.le_refl _) hs hv,by rw [BZ];omega⟩
 | d+1,t,v,ht,hv,hs=>by
  have f:v.Nar∧v.depth≤v.depth+1048576:=⟨OD v.size v (Nat.le_refl _) hs hv,by omega⟩
  have G:=Im v
  have Q:=t.lens
  have K:=ht.1
  obtain ⟨o,C,l⟩:=v.ok_eq.1 hv
  obtain ⟨J,N,V,w⟩:=t.ok_eq.1 ht.2.2
  have O:=v.depth_eq
  have m:∀ u∈v.list,u.Nar∧u.depth≤v.depth-1+1048576:=fun u i=>⟨OD u.size u (Nat.le_refl _) (by have:=v.list_size u i;omega) (C u i),by have:=Vl.depth_list i;omega⟩
  have j:∀ q∈v.fields,q.1.size≤1048576∧q.2.Nar∧q.2.depth≤v.depth-1+1048576:=fun q g=>⟨(l q g).1,OD q.2.size q.2 (Nat.le_refl _) (by have:=v.field_size q g;omega) (l q g).2,by have:=Vl.depth_fld g;omega⟩
  have cl:∀ x,x.small→∀ u∈v.list,(BZ d x u).Nar∧(BZ d x u).depth≤v.depth-1+1048576:=fun x hx u i=>by
   obtain ⟨a,b⟩:=Oi d x u hx (C u i) (by have:=v.list_size u i;omega)
   exact ⟨a,by have:=Vl.depth_list i;omega⟩
  have F:∀ x,x.small→∀ q∈v.fields,(BZ d x q.2).Nar∧(BZ d x q.2).depth≤v.depth-1+1048576:=fun x hx q g=>by
   obtain ⟨a,b⟩:=Oi d x q.2 hx (l q g).2 (by have:=v.field_size q g;omega)
   exact ⟨a,by have:=Vl.depth_fld g;omega⟩
  have up:v.depth-1+1048576+1=v.depth+1048576:=by omega
  rw [BZ]
  split
  ·exact f
  split
  ·rename_i k9
   have r:Dx (BZ d) t v=Vw v (v.fields.map fun q=>match Bj t q.1 with | some p=>(q.1,BZ d p.2.2.2.1 q.2) | none=>q):=by rw [Dx,if_neg (by omega),if_pos k9];rfl
   have E:∀ q∈(Dx (BZ d) t v).fields,q.1.size≤1048576∧q.2.Nar∧q.2.depth≤v.depth-1+1048576:=fun q g=>by
    rw [r] at g
    obtain ⟨z,n,rfl⟩:=List.mem_map.1 (show q∈v.fields.map _ from g)
    cases c:Bj t z.1 with
    | none=>exact j z n
    | some p=>exact ⟨(l z n).1,F _ (Ty.small_field ht (DN c).1) z n⟩
   have s:(Dx (BZ d) t v).fields.length=v.fields.length:=by rw [r];exact List.length_map _
   obtain ⟨a1,a2⟩:=Yf t.fields (Dx (BZ d) t v).fields
   have:=Zw v.kind v.int v.scale v.text v.list (OB t.fields (Dx (BZ d) t v).fields) (v.depth-1+1048576) o (by omega) (by omega) m (fun q g=>by
    rcases a2 q g with h | ⟨p,hp,h1,h2⟩
    ·exact E q h
    ·obtain ⟨U,H,D⟩:=(w p hp).2.2.2 q.2 h2
     exact ⟨by rw [h1];exact (w p hp).1,OD q.2.size q.2 (Nat.le_refl _) (by omega) D,by omega⟩)
   rw [up] at this
   have e:Vw (Dx (BZ d) t v) (OB t.fields (Dx (BZ d) t v).fields)=Vl.mk v.kind v.int v.scale v.text v.list (OB t.fields (Dx (BZ d) t v).fields):=by rw [r];rfl
   rw [e]
   exact this
  ·rename_i k9
   rw [Dx]
   split
   ·split
    ·rename_i x he
     have k:x∈t.elem:=by rw [he];simp
     have:=Zw v.kind v.int v.scale v.text (v.list.map (BZ d x)) v.fields (v.depth-1+1048576) o (by rw [List.length_map];omega) (by omega) (fun y hy=>by
      obtain ⟨u,i,rfl⟩:=List.mem_map.1 hy
      exact cl x (Ty.small_elem ht k) u i) j
     rw [up] at this
     exact this
    ·exact f
   ·split
    ·split
     ·rename_i p x xs hp hx
      have k:x∈v.list:=by rw [hx];simp
      have:=Zw v.kind v.int v.scale v.text [BZ d p.2.2.2.1 x] v.fields (v.depth-1+1048576) o (by simp) (by omega) (fun y hy=>by
       rw [List.mem_singleton] at hy;subst hy
       exact cl _ (Ty.small_field ht (DN hp).1) x k) j
      rw [up] at this
      exact this
     ·exact f
    ·exact f
theorem ZaZ:∀ (k:Nat) (v:Vl) (lv:Nat),v.size≤k→v.Nar→∀ p∈E8 lv v,p.2.Nar
 | 0,v,lv,h,_,_,_=>absurd h (by have:=v.size_eq;omega)
 | k+1,v,lv,h,hv,p,hp=>by
  rw [NB] at hp
  rcases List.mem_cons.1 hp with rfl | hp
  ·exact hv
  ·obtain ⟨x,a,hp⟩:=List.mem_flatMap.1 hp
   have:=I2 a
   exact ZaZ k x (lv+1) (by omega) (by
    rcases OY a with h | ⟨q,hq,rfl⟩
    ·exact hv.list h
    ·exact hv.field hq) p hp
theorem TC (n:Nat) (v:Vl) (hn:1000000000≤n) (hs:v.depth<4611686018427387904) (hv:v.Nar):EO n v=some (N1 v):=by
 rw [EO,if_pos ⟨hs,hv.wide⟩]
 exact Q7 n (by omega) _ 0 (fun p a=>by
  have h:=ZaZ v.size v 1 (Nat.le_refl _) hv p a
  have b:=h.inv
  exact ⟨h.ok,by omega,by omega⟩) (by omega) (by omega)
theorem XW:∀ (l:List (Nat × Vl)) (c:Int),c≤4096→RX l c=0→c+l.length≤4096
 | [],c,hc,_=>by simpa using hc
 | p::r,c,hc,h=>by
  rw [RX] at h
  split at h
  ·cases h
  split at h
  ·cases h
  split at h
  ·have:=XW r (c+1) (by omega) h
   rw [List.length_cons];omega
  ·rename_i h0;exact absurd h h0
theorem Zcv {v:Vl} (h:N1 v=0):v.size≤4096:=by
 have a:=XW (E8 1 v) 0 (by omega) h
 have b:=VY v.size v 1 (Nat.le_refl _) (KV h)
 omega
theorem Oz (n:Nat) (t:Ty) (v:Vl) (ht:t.small) (hv:v.ok) (hs:v.size≤1048576) (hn:2100000000≤n):Ez n t v=some (if EI 12 t (BZ 12 t v)=true then (BZ 12 t v,0) else (nilV,18)):=by
 obtain ⟨b,e⟩:=Oi 12 t v ht hv hs
 have d:=v.depth_size
 have c:=ht.1
 have a:=ht.2.2
 rw [Ez,Ly 12 n t v ht.2.1 c hs hv (by omega),Option.bind_some,ZaT n 12 t _ ht.2.1 (by omega) c a b (by omega) (by omega),Option.bind_some]
 cases EI 12 t (BZ 12 t v) with
 | false=>rfl
 | true=>rw [if_neg (by decide),Ik n _ b (by omega),Option.bind_some,if_pos rfl]
def LS (n:Nat)  : Option Int :=
 some (0)
def EX (n:Nat) (h:List Int):Nat→Int→Option Int
 | 0,_=>none
 | m+1,b =>
  if decide (b<(h.length:Int)) then
   (Cb h b).bind fun g =>
   if !(decide (g=0)) then
    some (g)
   else
    if BR (b+1) then
     (EX n h m) (b+1)
    else none
  else
   LS n 
def Iu (n:Nat) (b:List Int):Option Int :=
 EX n b n 0
theorem Pq (w0:World) (n:Nat) (B:List (List AV)) (Rw:List RowA) (L:List LoopA) (a0:List Int) (r:Int) (h:Iu n a0=some r) :
  ACalls Tryz.prog w0 142 [.list (a0.map Yr) .none] ⟨B,Rw,L⟩ fun x st=>x = .val (.int .i64 r)∧st=⟨B,Rw,L⟩:=by
 rw [Iu] at h
 refine hd [.tmp 2] Tryz.func142 Tryz.ntmps142 fun M0 W0 v o j a y c hs=>?_
 simp only [Am]
 refine rg [0] hs ?_
 refine rg [0,3] hs ?_
 refine Ak (fun e st=>Ck e st B Rw L [(3,true,.val (.int .i64 0))] [] [] (LS n  = some r)) ?_ ?_
 ·intro K5 t
  refine rg [3,6,7,8] hs ?_
  apply Ad
  refine Ap (fun m e st=>∃ (b:Int),Ck e st B Rw L [(3,true,.val (.int .i64 0)),(6,true,.list (a0.map Yr) .none),(7,true,.val (.int .i64 (a0.length:Int))),(8,true,.val (.int .i64 b))] [] [] (EX n a0 m b=some r)) n ⟨0,([]),Rw,ef hs,ef hs,c,h⟩ ?_
  rintro ml7 e st ⟨b,Xl7,Rl7,rfl,rfl,c,h⟩ Ul7 Vl7
  cases ml7 with
  | zero=>cases h
  | succ ml7 =>
  rw [EX] at h
  refine td v o j a c ?_
  refine rg [3,6,7,8,9] hs ?_
  apply Aa;intro K9 l
  refine Av h hs (fun hs h=>?_) (fun hs h=>?_)
  rotate_left
  ·refine sx [3] hs t ?_
   exact ⟨([]),Rl7,ef hs,ef hs,c,h⟩
  refine sk [3,6,7,8] hs l ?_
  clear l
  apply Aa;intro K11 d
  apply Ad
  obtain ⟨w,k,h⟩:=bind_some h
  obtain ⟨p,q,i⟩:=Ao k
  have g:=Aq (f:=Yr) i
  have hs:=And.intro g hs
  refine rg [3,5,6,7,8] hs ?_
  refine rg [3,5,6,7,8,14] hs ?_
  refine Av h hs (fun hs h=>?_) (fun hs h=>?_)
  ·refine rg [2] hs ?_
   exact rt h hs a c
  refine sk [3,6,7,8] hs d ?_
  clear d
  obtain ⟨u,h⟩:=Ac h
  refine rl [3,6,7,8] hs (fun e s=>Vl7 ml7 e s (Nat.lt_succ_self _)) ?_
  exact ⟨(b+1),([]),Rl7,ef hs,ef hs,c,h⟩
 ·clear h;rintro e st ⟨Xk4,Rk4,rfl,rfl,c,h⟩
  rw [LS] at h
  refine td v o j a c ?_
  refine rg [2] hs ?_
  exact rt h hs a c
def GG (n:Nat)  : Option Bool :=
 some (true)
def Eg (n:Nat) (g:List Vl) (y:List Vl) (a2:Vl→Vl→Option Bool):Nat→Int→Option Bool
 | 0,_=>none
 | m+1,b =>
  if decide (b<(g.length:Int)) then
   (Cb g b).bind fun s =>
   (Cb y b).bind fun h =>
   (a2 s h).bind fun q =>
   if !q then
    some (false)
   else
    if BR (b+1) then
     (Eg n g y a2 m) (b+1)
    else none
  else
   GG n 
def G4 (n:Nat) (g:List Vl) (b:List Vl) (h:Vl→Vl→Option Bool):Option Bool :=
 if !(decide ((g.length:Int)=(b.length:Int))) then
  some (false)
 else
  Eg n g b h n 0
theorem NS (w0:World) (n:Nat) (B:List (List AV)) (Rw:List RowA) (L:List LoopA) (a0:List Vl) (a1:List Vl) (fa2:FuncId) (ca2:List AV) (a2:Vl→Vl→Option Bool) (ha2:∀ (x0:Vl) (x1:Vl) r,a2 x0 x1=some r→∀ B' rows,B <+: B'→Rw <+: rows→ACalls Tryz.prog w0 fa2 ([.agg (x0.cs),.agg (x1.cs)]++ca2) ⟨B',rows,L⟩ fun v s=>v = .val (.bool r)∧s=⟨B',rows,L⟩) (r:Bool) (h:G4 n a0 a1 a2=some r) :
  ACalls Tryz.prog w0 208 [.list (a0.map A1) .none,.list (a1.map A1) .none,.clo fa2 ca2] ⟨B,Rw,L⟩ fun x st=>x = .val (.bool r)∧st=⟨B,Rw,L⟩:=by
 rw [G4] at h
 refine hd [.tmp 6] Tryz.func208 Tryz.ntmps208 fun M0 W0 K D q b Q d hs=>?_
 simp only [Am]
 have c:=B6 (Q (.clo fa2 ca2) (by simp))
 refine rg [0,1,2] hs ?_
 apply Aa;intro K2 C
 refine rg [0,1,2,14] hs ?_
 refine Av h hs (fun hs h=>?_) (fun hs h=>?_)
 ·refine rg [6] hs ?_
  exact rt h hs b d
 refine sk [0,1,2] hs C ?_
 clear C
 refine Ak (fun e st=>Ck e st B Rw L [] [] [] (GG n  = some r)) ?_ ?_
 ·intro K8 H
  refine rg [1,2,15,16,17] hs ?_
  apply Ad
  refine Ap (fun m e st=>∃ (a:Int),Ck e st B Rw L [(1,true,.list (a1.map A1) .none),(2,true,.clo fa2 ca2),(15,true,.list (a0.map A1) .none),(16,true,.val (.int .i64 (a0.length:Int))),(17,true,.val (.int .i64 a))] [] [] (Eg n a0 a1 a2 m a=some r)) n ⟨0,([]),Rw,ef hs,ef hs,d,h⟩ ?_
  rintro ml10 e st ⟨a,Xl10,Rl10,rfl,rfl,d,h⟩ Ul10 Vl10
  cases ml10 with
  | zero=>cases h
  | succ ml10 =>
  rw [Eg] at h
  refine AH K D q rfl b d (Jm c d) (Jm c d) ?_
  refine rg [1,2,15,16,17,18] hs ?_
  apply Aa;intro K12 g
  refine Av h hs (fun hs h=>?_) (fun hs h=>?_)
  rotate_left
  ·refine sx [] hs H ?_
   exact ⟨([]),Rl10,ef hs,ef hs,d,h⟩
  refine sk [1,2,15,16,17] hs g ?_
  clear g
  apply Aa;intro K14 j
  apply Ad
  obtain ⟨u,t,h⟩:=bind_some h
  obtain ⟨G,J,l⟩:=Ao t
  have k:=Aq (f:=A1) l
  have hs:=And.intro k hs
  refine rg [1,2,7,8,15,16,17] hs ?_
  obtain ⟨z,y,h⟩:=bind_some h
  obtain ⟨E,F,o⟩:=Ao y
  have p:=Aq (f:=A1) o
  have hs:=And.intro p hs
  refine rg [1,2,8,9,15,16,17] hs ?_
  obtain ⟨O,w,h⟩:=bind_some h
  refine rc 2 [1,2,15,16,17,30] hs ?_;intro K19 i
  refine FY _ (ha2 u z _ w _ _ px d.pre) (hv hs) ?_
  refine ne hs i ?_
  clear i
  refine Av h hs (fun hs h=>?_) (fun hs h=>?_)
  ·refine rg [6] hs ?_
   exact rt h hs b d
  refine sk [1,2,15,16,17] hs j ?_
  clear j
  obtain ⟨N,h⟩:=Ac h
  refine rl [1,2,15,16,17] hs (fun e s=>Vl10 ml10 e s (Nat.lt_succ_self _)) ?_
  exact ⟨(a+1),([u.cs,z.cs]),Rl10,ef hs,ef hs,d,h⟩
 ·clear h;rintro e st ⟨Xk7,Rk7,rfl,rfl,d,h⟩
  rw [GG] at h
  refine AH K D q rfl b d (Jm c d) (Jm c d) ?_
  refine rg [6] hs ?_
  exact rt h hs b d
def D4 (n:Nat) (g:List (ByteArray × Vl)) (b:List (ByteArray × Vl)):Option Int :=
 if decide ((g.length:Int)<(b.length:Int)) then
  some ((-1))
 else
  some (0)
def BH (n:Nat) (h:List (ByteArray × Vl)) (q:List (ByteArray × Vl)) (a2:(ByteArray × Vl)→(ByteArray × Vl)→Option Int):Nat→Int→Option Int
 | 0,_=>none
 | m+1,b =>
  if decide (b<(h.length:Int)) then
   (Cb h b).bind fun y =>
   if decide ((q.length:Int)≤b) then
    some (1)
   else
    (Cb q b).bind fun s =>
    (a2 y s).bind fun g =>
    if !(decide (g=0)) then
     some (g)
    else
     if BR (b+1) then
      (BH n h q a2 m) (b+1)
     else none
  else
   D4 n h q 
def Ee (n:Nat) (g:List (ByteArray × Vl)) (b:List (ByteArray × Vl)) (h:(ByteArray × Vl)→(ByteArray × Vl)→Option Int):Option Int :=
 BH n g b h n 0
theorem L8 (w0:World) (n:Nat) (B:List (List AV)) (Rw:List RowA) (L:List LoopA) (a0:List (ByteArray × Vl)) (a1:List (ByteArray × Vl)) (fa2:FuncId) (ca2:List AV) (a2:(ByteArray × Vl)→(ByteArray × Vl)→Option Int) (ha2:∀ (x0:ByteArray × Vl) (x1:ByteArray × Vl) r,a2 x0 x1=some r→∀ B' rows,B <+: B'→Rw <+: rows→ACalls Tryz.prog w0 fa2 ([.agg (.val (.string x0.1)::(x0.2.cs)),.agg (.val (.string x1.1)::(x1.2.cs))]++ca2) ⟨B',rows,L⟩ fun v s=>v = .val (.int .i64 r)∧s=⟨B',rows,L⟩) (r:Int) (h:Ee n a0 a1 a2=some r) :
  ACalls Tryz.prog w0 145 [.list (a0.map BI) .none,.list (a1.map BI) .none,.clo fa2 ca2] ⟨B,Rw,L⟩ fun x st=>x = .val (.int .i64 r)∧st=⟨B,Rw,L⟩:=by
 rw [Ee] at h
 refine hd [.tmp 6] Tryz.func145 Tryz.ntmps145 fun M0 W0 O E w a U d hs=>?_
 simp only [Am]
 have c:=B6 (U (.clo fa2 ca2) (by simp))
 refine rg [0,1,2] hs ?_
 refine Ak (fun e st=>Ck e st B Rw L [(0,true,.list (a0.map BI) .none),(1,true,.list (a1.map BI) .none)] [] [] (D4 n a0 a1  = some r)) ?_ ?_
 ·intro K4 F
  refine rg [0,1,2,11,12,13] hs ?_
  apply Ad
  refine Ap (fun m e st=>∃ (b:Int),Ck e st B Rw L [(0,true,.list (a0.map BI) .none),(1,true,.list (a1.map BI) .none),(2,true,.clo fa2 ca2),(11,true,.list (a0.map BI) .none),(12,true,.val (.int .i64 (a0.length:Int))),(13,true,.val (.int .i64 b))] [] [] (BH n a0 a1 a2 m b=some r)) n ⟨0,([]),Rw,ef hs,ef hs,d,h⟩ ?_
  rintro ml6 e st ⟨b,Xl6,Rl6,rfl,rfl,d,h⟩ Ul6 Vl6
  cases ml6 with
  | zero=>cases h
  | succ ml6 =>
  rw [BH] at h
  refine AH O E w rfl a d (Jm c d) (Jm c d) ?_
  refine rg [0,1,2,11,12,13,14] hs ?_
  apply Aa;intro K8 D
  refine Av h hs (fun hs h=>?_) (fun hs h=>?_)
  rotate_left
  ·refine sx [0,1] hs F ?_
   exact ⟨([]),Rl6,ef hs,ef hs,d,h⟩
  refine sk [0,1,2,11,12,13] hs D ?_
  clear D
  apply Aa;intro K10 g
  apply Ad
  obtain ⟨q,C,h⟩:=bind_some h
  obtain ⟨K,J,t⟩:=Ao C
  have u:=Aq (f:=BI) t
  have hs:=And.intro u hs
  refine rg [0,1,2,7,8,11,12,13] hs ?_
  apply Aa;intro K13 i
  refine rg [0,1,2,7,8,11,12,13,21] hs ?_
  refine Av h hs (fun hs h=>?_) (fun hs h=>?_)
  ·refine rg [6] hs ?_
   exact rt h hs a d
  refine sk [0,1,2,7,8,11,12,13] hs i ?_
  clear i
  obtain ⟨l,z,h⟩:=bind_some h
  obtain ⟨G,H,o⟩:=Ao z
  have p:=Aq (f:=BI) o
  have hs:=And.intro p hs
  refine rg [0,1,2,8,9,11,12,13] hs ?_
  obtain ⟨Q,y,h⟩:=bind_some h
  refine rc 2 [0,1,2,10,11,12,13] hs ?_;intro K19 j
  refine FY _ (ha2 q l _ y _ _ px d.pre) (hv hs) ?_
  refine ne hs j ?_
  clear j
  refine rg [0,1,2,10,11,12,13,31] hs ?_
  refine Av h hs (fun hs h=>?_) (fun hs h=>?_)
  ·refine rg [6] hs ?_
   exact rt h hs a d
  refine sk [0,1,2,11,12,13] hs g ?_
  clear g
  obtain ⟨N,h⟩:=Ac h
  refine rl [0,1,2,11,12,13] hs (fun e s=>Vl6 ml6 e s (Nat.lt_succ_self _)) ?_
  exact ⟨(b+1),([.val (.string q.1)::(q.2.cs),.val (.string l.1)::(l.2.cs)]),Rl6,ef hs,ef hs,d,h⟩
 ·clear h;rintro e st ⟨Xk3,Rk3,rfl,rfl,d,h⟩
  rw [D4] at h
  refine AH O E w rfl a d (Jm c d) (Jm c d) ?_
  apply Aa;intro K25 k
  refine rg [38] hs ?_
  refine Av h hs (fun hs h=>?_) (fun hs h=>?_)
  ·refine rg [6] hs ?_
   exact rt h hs a d
  refine sk [] hs k ?_
  clear k
  refine rg [6] hs ?_
  exact rt h hs a d
def D1 (n:Nat) (g:List Vl) (b:List Vl):Option Int :=
 if decide ((g.length:Int)<(b.length:Int)) then
  some ((-1))
 else
  some (0)
def BE (n:Nat) (h:List Vl) (q:List Vl) (a2:Vl→Vl→Option Int):Nat→Int→Option Int
 | 0,_=>none
 | m+1,b =>
  if decide (b<(h.length:Int)) then
   (Cb h b).bind fun y =>
   if decide ((q.length:Int)≤b) then
    some (1)
   else
    (Cb q b).bind fun s =>
    (a2 y s).bind fun g =>
    if !(decide (g=0)) then
     some (g)
    else
     if BR (b+1) then
      (BE n h q a2 m) (b+1)
     else none
  else
   D1 n h q 
def Ef (n:Nat) (g:List Vl) (b:List Vl) (h:Vl→Vl→Option Int):Option Int :=
 BE n g b h n 0
theorem MB (w0:World) (n:Nat) (B:List (List AV)) (Rw:List RowA) (L:List LoopA) (a0:List Vl) (a1:List Vl) (fa2:FuncId) (ca2:List AV) (a2:Vl→Vl→Option Int) (ha2:∀ (x0:Vl) (x1:Vl) r,a2 x0 x1=some r→∀ B' rows,B <+: B'→Rw <+: rows→ACalls Tryz.prog w0 fa2 ([.agg (x0.cs),.agg (x1.cs)]++ca2) ⟨B',rows,L⟩ fun v s=>v = .val (.int .i64 r)∧s=⟨B',rows,L⟩) (r:Int) (h:Ef n a0 a1 a2=some r) :
  ACalls Tryz.prog w0 144 [.list (a0.map A1) .none,.list (a1.map A1) .none,.clo fa2 ca2] ⟨B,Rw,L⟩ fun x st=>x = .val (.int .i64 r)∧st=⟨B,Rw,L⟩:=by
 rw [Ef] at h
 refine hd [.tmp 6] Tryz.func144 Tryz.ntmps144 fun M0 W0 O E t a U d hs=>?_
 simp only [Am]
 have c:=B6 (U (.clo fa2 ca2) (by simp))
 refine rg [0,1,2] hs ?_
 refine Ak (fun e st=>Ck e st B Rw L [(0,true,.list (a0.map A1) .none),(1,true,.list (a1.map A1) .none)] [] [] (D1 n a0 a1  = some r)) ?_ ?_
 ·intro K4 F
  refine rg [0,1,2,11,12,13] hs ?_
  apply Ad
  refine Ap (fun m e st=>∃ (b:Int),Ck e st B Rw L [(0,true,.list (a0.map A1) .none),(1,true,.list (a1.map A1) .none),(2,true,.clo fa2 ca2),(11,true,.list (a0.map A1) .none),(12,true,.val (.int .i64 (a0.length:Int))),(13,true,.val (.int .i64 b))] [] [] (BE n a0 a1 a2 m b=some r)) n ⟨0,([]),Rw,ef hs,ef hs,d,h⟩ ?_
  rintro ml6 e st ⟨b,Xl6,Rl6,rfl,rfl,d,h⟩ Ul6 Vl6
  cases ml6 with
  | zero=>cases h
  | succ ml6 =>
  rw [BE] at h
  refine AH O E t rfl a d (Jm c d) (Jm c d) ?_
  refine rg [0,1,2,11,12,13,14] hs ?_
  apply Aa;intro K8 D
  refine Av h hs (fun hs h=>?_) (fun hs h=>?_)
  rotate_left
  ·refine sx [0,1] hs F ?_
   exact ⟨([]),Rl6,ef hs,ef hs,d,h⟩
  refine sk [0,1,2,11,12,13] hs D ?_
  clear D
  apply Aa;intro K10 g
  apply Ad
  obtain ⟨z,C,h⟩:=bind_some h
  obtain ⟨K,J,p⟩:=Ao C
  have q:=Aq (f:=A1) p
  have hs:=And.intro q hs
  refine rg [0,1,2,7,8,11,12,13] hs ?_
  apply Aa;intro K13 i
  refine rg [0,1,2,7,8,11,12,13,21] hs ?_
  refine Av h hs (fun hs h=>?_) (fun hs h=>?_)
  ·refine rg [6] hs ?_
   exact rt h hs a d
  refine sk [0,1,2,7,8,11,12,13] hs i ?_
  clear i
  obtain ⟨y,w,h⟩:=bind_some h
  obtain ⟨G,H,l⟩:=Ao w
  have o:=Aq (f:=A1) l
  have hs:=And.intro o hs
  refine rg [0,1,2,8,9,11,12,13] hs ?_
  obtain ⟨Q,u,h⟩:=bind_some h
  refine rc 2 [0,1,2,10,11,12,13] hs ?_;intro K19 j
  refine FY _ (ha2 z y _ u _ _ px d.pre) (hv hs) ?_
  refine ne hs j ?_
  clear j
  refine rg [0,1,2,10,11,12,13,31] hs ?_
  refine Av h hs (fun hs h=>?_) (fun hs h=>?_)
  ·refine rg [6] hs ?_
   exact rt h hs a d
  refine sk [0,1,2,11,12,13] hs g ?_
  clear g
  obtain ⟨N,h⟩:=Ac h
  refine rl [0,1,2,11,12,13] hs (fun e s=>Vl6 ml6 e s (Nat.lt_succ_self _)) ?_
  exact ⟨(b+1),([z.cs,y.cs]),Rl6,ef hs,ef hs,d,h⟩
 ·clear h;rintro e st ⟨Xk3,Rk3,rfl,rfl,d,h⟩
  rw [D1] at h
  refine AH O E t rfl a d (Jm c d) (Jm c d) ?_
  apply Aa;intro K25 k
  refine rg [38] hs ?_
  refine Av h hs (fun hs h=>?_) (fun hs h=>?_)
  ·refine rg [6] hs ?_
   exact rt h hs a d
  refine sk [] hs k ?_
  clear k
  refine rg [6] hs ?_
  exact rt h hs a d
def GA (rec:Vl→Vl→Option Int) (n:Nat) (g:ByteArray × Vl) (b:ByteArray × Vl):Option Int :=
 (rec g.2 b.2).bind fun q =>
 (Iu n ([Eh g.1 b.1,q])).bind fun h =>
 some (h)
theorem UF (w0:World) (rec:Vl→Vl→Option Int) (ih:∀ (B:List (List AV)) (Rw:List RowA) (L:List LoopA) (a0:Vl) (a1:Vl) (r:Int) (h:rec a0 a1=some r),ACalls Tryz.prog w0 83 [.agg (a0.cs),.agg (a1.cs)] ⟨B,Rw,L⟩ fun x st=>x = .val (.int .i64 r)∧st=⟨B,Rw,L⟩) (n:Nat) (B:List (List AV)) (Rw:List RowA) (L:List LoopA) (a0:ByteArray × Vl) (a1:ByteArray × Vl) (r:Int) (h:GA rec n a0 a1=some r) :
  ACalls Tryz.prog w0 146 [.agg (.val (.string a0.1)::(a0.2.cs)),.agg (.val (.string a1.1)::(a1.2.cs))] ⟨B,Rw,L⟩ fun x st=>x = .val (.int .i64 r)∧st=⟨B,Rw,L⟩:=by
 rw [GA] at h
 refine hd [.tmp 4] Tryz.func146 Tryz.ntmps146 fun M0 W0 j i f a l e hs=>?_
 simp only [Am]
 refine rg [2,3] hs ?_
 obtain ⟨g,d,h⟩:=bind_some h
 obtain ⟨k,c,h⟩:=bind_some h
 apply Aa;intro K2 b
 refine dk 13 4 1 [4] hs Gm ?_
 refine Ab _ (MR w0 _ _ _ a0.1 a1.1) (hv hs) ?_
 refine nc hs ?_
 refine Ab _ (ih _ _ _ a0.2 a1.2 _ d) (hv hs) ?_
 refine nc hs ?_
 refine Ab _ (Pq w0 n _ _ _ ([Eh a0.1 a1.1,g]) _ c) (hv hs) ?_
 refine dn hs b ?_
 clear b
 exact rt h hs a e
def K0 (rec:Vl→Vl→Option Int) (n:Nat) (g:Vl) (b:Vl):Option Int :=
 (Ef n g.list b.list (fun (q:Vl) (h:Vl)=>rec q h)).bind fun y =>
 (Ee n g.fields b.fields (fun (q:ByteArray × Vl) (h:ByteArray × Vl)=>GA rec n q h)).bind fun s =>
 (Iu n ([if g.kind<b.kind then -1 else if g.kind=b.kind then 0 else 1,if g.int<b.int then -1 else if g.int=b.int then 0 else 1,if g.scale<b.scale then -1 else if g.scale=b.scale then 0 else 1,Eh g.text b.text,y,s])).bind fun y5 =>
 some (y5)
def FX:Nat→Vl→Vl→Option Int
 | 0,_,_=>none
 | n+1,g,b=>K0 (FX n) n g b
def N4 (w0:World) (F:Vl→Vl→Option Int):Prop:=∀ (B:List (List AV)) (Rw:List RowA) (L:List LoopA) (g:Vl) (b:Vl) (r:Int),F g b=some r→ACalls Tryz.prog w0 83 [.agg (g.cs),.agg (b.cs)] ⟨B,Rw,L⟩ fun x st=>x = .val (.int .i64 r)∧st=⟨B,Rw,L⟩
theorem UO (w0:World) (rec:Vl→Vl→Option Int) (ih:N4 w0 rec) (n:Nat):N4 w0 (K0 rec n):=by
 intro B Rw L a0 a1 r h
 rw [K0] at h
 refine hd [.tmp 4] Tryz.func83 Tryz.ntmps83 fun M0 W0 v t o b w s hs=>?_
 simp only [Am]
 refine rg [2,3] hs ?_
 obtain ⟨p,i,h⟩:=bind_some h
 obtain ⟨q,k,h⟩:=bind_some h
 obtain ⟨u,j,h⟩:=bind_some h
 apply Aa;intro K2 e
 refine dk 33 8 1 [4] (al hs) Gm ?_
 refine Ab _ (P0 w0 _ _ _ a0.kind a1.kind) (hv (al hs)) ?_
 refine nc (al hs) ?_
 refine Ab _ (P0 w0 _ _ _ a0.int a1.int) (hv (al hs)) ?_
 refine nc (al hs) ?_
 refine Ab _ (P0 w0 _ _ _ a0.scale a1.scale) (hv (al hs)) ?_
 refine nc (al hs) ?_
 refine Ab _ (MR w0 _ _ _ a0.text a1.text) (hv (al hs)) ?_
 refine nc (al hs) ?_
 refine Ab _ (MB w0 n _ _ _ a0.list a1.list 83 [] (fun (c:Vl) (a:Vl)=>rec c a) (fun c a r g m d l f=>by exact ih _ _ _ c a _ g) _ i) (hv (al hs)) ?_
 refine nc (al hs) ?_
 refine Ab _ (L8 w0 n _ _ _ a0.fields a1.fields 146 [] (fun (c:ByteArray × Vl) (a:ByteArray × Vl)=>GA rec n c a) (fun c a r g m d l f=>by exact UF w0 rec ih n _ _ _ c a _ g) _ k) (hv (al hs)) ?_
 refine nc (al hs) ?_
 refine Ab _ (Pq w0 n _ _ _ ([if a0.kind<a1.kind then -1 else if a0.kind=a1.kind then 0 else 1,if a0.int<a1.int then -1 else if a0.int=a1.int then 0 else 1,if a0.scale<a1.scale then -1 else if a0.scale=a1.scale then 0 else 1,Eh a0.text a1.text,p,q]) _ j) (hv (al hs)) ?_
 refine dn (al hs) e ?_
 clear e
 exact rt h hs b s
theorem Qf (w0:World):∀ n:Nat,N4 w0 (FX n)
 | 0=>fun _ _ _ _ _ _ h=>(nomatch h)
 | n+1=>UO w0 (FX n) (Qf w0 n) n
def Ia (n:Nat) (g:Vl) (b:Vl):Option Bool :=
 (FX n g b).bind fun h =>
 some (decide (h=0))
theorem UK (w0:World) (n:Nat) (B:List (List AV)) (Rw:List RowA) (L:List LoopA) (a0:Vl) (a1:Vl) (r:Bool) (h:Ia n a0 a1=some r) :
  ACalls Tryz.prog w0 32 [.agg (a0.cs),.agg (a1.cs)] ⟨B,Rw,L⟩ fun x st=>x = .val (.bool r)∧st=⟨B,Rw,L⟩:=by
 rw [Ia] at h
 refine hd [.tmp 4] Tryz.func32 Tryz.ntmps32 fun M0 W0 g f e a j d hs=>?_
 simp only [Am]
 refine rg [2,3] hs ?_
 obtain ⟨i,c,h⟩:=bind_some h
 refine rc 2 [4] hs ?_;intro K2 b
 refine Ab _ (Qf w0 n _ _ _ a0 a1 _ c) (hv hs) ?_
 refine ne hs b ?_
 clear b
 exact rt h hs a d
def KX (rec:Ty→Ty→Option Bool) (n:Nat) (g:Int × ByteArray × Int × Ty × List Vl) (b:Int × ByteArray × Int × Ty × List Vl):Option Bool :=
 if ((decide (g.1=b.1))&&(Dz g.2.1 b.2.1))&&(decide (g.2.2.1=b.2.2.1)) then
  (rec g.2.2.2.1 b.2.2.2.1).bind fun q =>
  if q then
   (G4 n g.2.2.2.2 b.2.2.2.2 (fun (y:Vl) (s:Vl)=>Ia n y s)).bind fun h =>
   some (h)
  else
   some (false)
 else
  some (false)
theorem WH (w0:World) (rec:Ty→Ty→Option Bool) (ih:∀ (B:List (List AV)) (Rw:List RowA) (L:List LoopA) (a0:Ty) (a1:Ty) (r:Bool) (h:rec a0 a1=some r),ACalls Tryz.prog w0 163 [.agg (a0.cs),.agg (a1.cs)] ⟨B,Rw,L⟩ fun x st=>x = .val (.bool r)∧st=⟨B,Rw,L⟩) (n:Nat) (B:List (List AV)) (Rw:List RowA) (L:List LoopA) (a0:Int × ByteArray × Int × Ty × List Vl) (a1:Int × ByteArray × Int × Ty × List Vl) (r:Bool) (h:KX rec n a0 a1=some r) :
  ACalls Tryz.prog w0 207 [.agg (.val (.int .i64 a0.1)::(.val (.string a0.2.1)::(.val (.int .i64 a0.2.2.1)::((a0.2.2.2.1.cs)++([.list (a0.2.2.2.2.map A1) .none]))))),.agg (.val (.int .i64 a1.1)::(.val (.string a1.2.1)::(.val (.int .i64 a1.2.2.1)::((a1.2.2.2.1.cs)++([.list (a1.2.2.2.2.map A1) .none])))))] ⟨B,Rw,L⟩ fun x st=>x = .val (.bool r)∧st=⟨B,Rw,L⟩:=by
 rw [KX] at h
 refine hd [.tmp 4] Tryz.func207 Tryz.ntmps207 fun M0 W0 t p j a s d hs=>?_
 simp only [Am]
 refine rg [2,3] hs ?_
 apply Aa;intro K2 b
 rcases Bool.eq_false_or_eq_true (((decide (a0.1=a1.1))&&(Dz a0.2.1 a1.2.1))&&(decide (a0.2.2.1=a1.2.2.1))) with hf3 | hf3
 ·replace h:=AO h hf3
  obtain ⟨l,c,h⟩:=bind_some h
  rcases Bool.eq_false_or_eq_true (l) with hf5 | hf5
  ·replace h:=AO h hf5
   obtain ⟨u,e,h⟩:=bind_some h
   have hs:=And.intro hf3 hs
   have hs:=And.intro hf5 hs
   refine rk 3 [4] (al hs) ?_
   refine Ab _ (ih _ _ _ a0.2.2.2.1 a1.2.2.2.1 _ c) (hv (al hs)) ?_
   refine nc (al hs) ?_
   refine Ab _ (NS w0 n _ _ _ a0.2.2.2.2 a1.2.2.2.2 32 [] (fun (i:Vl) (g:Vl)=>Ia n i g) (fun i g r m q f o k=>by exact UK w0 n _ _ _ i g _ m) _ e) (hv (al hs)) ?_
   refine ne (al hs) b ?_
   clear b
   exact rt h hs a d
  ·replace h:=AN h hf5
   have hs:=And.intro hf3 hs
   have hs:=And.intro hf5 hs
   refine rk 3 [4] (al hs) ?_
   refine Ab _ (ih _ _ _ a0.2.2.2.1 a1.2.2.2.1 _ c) (hv (al hs)) ?_
   refine nc (al hs) ?_
   refine As ?_
   refine ne (al hs) b ?_
   clear b
   exact rt h hs a d
 ·replace h:=AN h hf3
  have hs:=And.intro hf3 hs
  refine rk 3 [4] (al hs) ?_
  refine As ?_
  refine nc (al hs) ?_
  refine As ?_
  refine ne (al hs) b ?_
  clear b
  exact rt h hs a d
def GR (n:Nat)  : Option Bool :=
 some (true)
def EF (n:Nat) (g:List Ty) (y:List Ty) (a2:Ty→Ty→Option Bool):Nat→Int→Option Bool
 | 0,_=>none
 | m+1,b =>
  if decide (b<(g.length:Int)) then
   (Cb g b).bind fun s =>
   (Cb y b).bind fun h =>
   (a2 s h).bind fun q =>
   if !q then
    some (false)
   else
    if BR (b+1) then
     (EF n g y a2 m) (b+1)
    else none
  else
   GR n 
def HB (n:Nat) (g:List Ty) (b:List Ty) (h:Ty→Ty→Option Bool):Option Bool :=
 if !(decide ((g.length:Int)=(b.length:Int))) then
  some (false)
 else
  EF n g b h n 0
theorem Jq (w0:World) (n:Nat) (B:List (List AV)) (Rw:List RowA) (L:List LoopA) (a0:List Ty) (a1:List Ty) (fa2:FuncId) (ca2:List AV) (a2:Ty→Ty→Option Bool) (ha2:∀ (x0:Ty) (x1:Ty) r,a2 x0 x1=some r→∀ B' rows,B <+: B'→Rw <+: rows→ACalls Tryz.prog w0 fa2 ([.agg (x0.cs),.agg (x1.cs)]++ca2) ⟨B',rows,L⟩ fun v s=>v = .val (.bool r)∧s=⟨B',rows,L⟩) (r:Bool) (h:HB n a0 a1 a2=some r) :
  ACalls Tryz.prog w0 205 [.list (a0.map HK) .none,.list (a1.map HK) .none,.clo fa2 ca2] ⟨B,Rw,L⟩ fun x st=>x = .val (.bool r)∧st=⟨B,Rw,L⟩:=by
 rw [HB] at h
 refine hd [.tmp 6] Tryz.func205 Tryz.ntmps205 fun M0 W0 K D q b Q d hs=>?_
 simp only [Am]
 have c:=B6 (Q (.clo fa2 ca2) (by simp))
 refine rg [0,1,2] hs ?_
 apply Aa;intro K2 C
 refine rg [0,1,2,14] hs ?_
 refine Av h hs (fun hs h=>?_) (fun hs h=>?_)
 ·refine rg [6] hs ?_
  exact rt h hs b d
 refine sk [0,1,2] hs C ?_
 clear C
 refine Ak (fun e st=>Ck e st B Rw L [] [] [] (GR n  = some r)) ?_ ?_
 ·intro K8 H
  refine rg [1,2,15,16,17] hs ?_
  apply Ad
  refine Ap (fun m e st=>∃ (a:Int),Ck e st B Rw L [(1,true,.list (a1.map HK) .none),(2,true,.clo fa2 ca2),(15,true,.list (a0.map HK) .none),(16,true,.val (.int .i64 (a0.length:Int))),(17,true,.val (.int .i64 a))] [] [] (EF n a0 a1 a2 m a=some r)) n ⟨0,([]),Rw,ef hs,ef hs,d,h⟩ ?_
  rintro ml10 e st ⟨a,Xl10,Rl10,rfl,rfl,d,h⟩ Ul10 Vl10
  cases ml10 with
  | zero=>cases h
  | succ ml10 =>
  rw [EF] at h
  refine AH K D q rfl b d (Jm c d) (Jm c d) ?_
  refine rg [1,2,15,16,17,18] hs ?_
  apply Aa;intro K12 g
  refine Av h hs (fun hs h=>?_) (fun hs h=>?_)
  rotate_left
  ·refine sx [] hs H ?_
   exact ⟨([]),Rl10,ef hs,ef hs,d,h⟩
  refine sk [1,2,15,16,17] hs g ?_
  clear g
  apply Aa;intro K14 j
  apply Ad
  obtain ⟨u,t,h⟩:=bind_some h
  obtain ⟨G,J,l⟩:=Ao t
  have k:=Aq (f:=HK) l
  have hs:=And.intro k hs
  refine rg [1,2,7,8,15,16,17] hs ?_
  obtain ⟨z,y,h⟩:=bind_some h
  obtain ⟨E,F,o⟩:=Ao y
  have p:=Aq (f:=HK) o
  have hs:=And.intro p hs
  refine rg [1,2,8,9,15,16,17] hs ?_
  obtain ⟨O,w,h⟩:=bind_some h
  refine rc 2 [1,2,15,16,17,30] hs ?_;intro K19 i
  refine FY _ (ha2 u z _ w _ _ px d.pre) (hv hs) ?_
  refine ne hs i ?_
  clear i
  refine Av h hs (fun hs h=>?_) (fun hs h=>?_)
  ·refine rg [6] hs ?_
   exact rt h hs b d
  refine sk [1,2,15,16,17] hs j ?_
  clear j
  obtain ⟨N,h⟩:=Ac h
  refine rl [1,2,15,16,17] hs (fun e s=>Vl10 ml10 e s (Nat.lt_succ_self _)) ?_
  exact ⟨(a+1),([u.cs,z.cs]),Rl10,ef hs,ef hs,d,h⟩
 ·clear h;rintro e st ⟨Xk7,Rk7,rfl,rfl,d,h⟩
  rw [GR] at h
  refine AH K D q rfl b d (Jm c d) (Jm c d) ?_
  refine rg [6] hs ?_
  exact rt h hs b d
def EM (n:Nat)  : Option Bool :=
 some (true)
def Dp (n:Nat) (g:List (Int × ByteArray × Int × Ty × List Vl)) (y:List (Int × ByteArray × Int × Ty × List Vl)) (a2:(Int × ByteArray × Int × Ty × List Vl)→(Int × ByteArray × Int × Ty × List Vl)→Option Bool):Nat→Int→Option Bool
 | 0,_=>none
 | m+1,b =>
  if decide (b<(g.length:Int)) then
   (Cb g b).bind fun s =>
   (Cb y b).bind fun h =>
   (a2 s h).bind fun q =>
   if !q then
    some (false)
   else
    if BR (b+1) then
     (Dp n g y a2 m) (b+1)
    else none
  else
   EM n 
def E0 (n:Nat) (g:List (Int × ByteArray × Int × Ty × List Vl)) (b:List (Int × ByteArray × Int × Ty × List Vl)) (h:(Int × ByteArray × Int × Ty × List Vl)→(Int × ByteArray × Int × Ty × List Vl)→Option Bool):Option Bool :=
 if !(decide ((g.length:Int)=(b.length:Int))) then
  some (false)
 else
  Dp n g b h n 0
theorem KN (w0:World) (n:Nat) (B:List (List AV)) (Rw:List RowA) (L:List LoopA) (a0:List (Int × ByteArray × Int × Ty × List Vl)) (a1:List (Int × ByteArray × Int × Ty × List Vl)) (fa2:FuncId) (ca2:List AV) (a2:(Int × ByteArray × Int × Ty × List Vl)→(Int × ByteArray × Int × Ty × List Vl)→Option Bool) (ha2:∀ (x0:Int × ByteArray × Int × Ty × List Vl) (x1:Int × ByteArray × Int × Ty × List Vl) r,a2 x0 x1=some r→∀ B' rows,B <+: B'→Rw <+: rows→ACalls Tryz.prog w0 fa2 ([.agg (.val (.int .i64 x0.1)::(.val (.string x0.2.1)::(.val (.int .i64 x0.2.2.1)::((x0.2.2.2.1.cs)++([.list (x0.2.2.2.2.map A1) .none]))))),.agg (.val (.int .i64 x1.1)::(.val (.string x1.2.1)::(.val (.int .i64 x1.2.2.1)::((x1.2.2.2.1.cs)++([.list (x1.2.2.2.2.map A1) .none])))))]++ca2) ⟨B',rows,L⟩ fun v s=>v = .val (.bool r)∧s=⟨B',rows,L⟩) (r:Bool) (h:E0 n a0 a1 a2=some r) :
  ACalls Tryz.prog w0 206 [.list (a0.map Cd) .none,.list (a1.map Cd) .none,.clo fa2 ca2] ⟨B,Rw,L⟩ fun x st=>x = .val (.bool r)∧st=⟨B,Rw,L⟩:=by
 rw [E0] at h
 refine hd [.tmp 6] Tryz.func206 Tryz.ntmps206 fun M0 W0 K D u b Q d hs=>?_
 simp only [Am]
 have c:=B6 (Q (.clo fa2 ca2) (by simp))
 refine rg [0,1,2] hs ?_
 apply Aa;intro K2 C
 refine rg [0,1,2,14] hs ?_
 refine Av h hs (fun hs h=>?_) (fun hs h=>?_)
 ·refine rg [6] hs ?_
  exact rt h hs b d
 refine sk [0,1,2] hs C ?_
 clear C
 refine Ak (fun e st=>Ck e st B Rw L [] [] [] (EM n  = some r)) ?_ ?_
 ·intro K8 H
  refine rg [1,2,15,16,17] hs ?_
  apply Ad
  refine Ap (fun m e st=>∃ (a:Int),Ck e st B Rw L [(1,true,.list (a1.map Cd) .none),(2,true,.clo fa2 ca2),(15,true,.list (a0.map Cd) .none),(16,true,.val (.int .i64 (a0.length:Int))),(17,true,.val (.int .i64 a))] [] [] (Dp n a0 a1 a2 m a=some r)) n ⟨0,([]),Rw,ef hs,ef hs,d,h⟩ ?_
  rintro ml10 e st ⟨a,Xl10,Rl10,rfl,rfl,d,h⟩ Ul10 Vl10
  cases ml10 with
  | zero=>cases h
  | succ ml10 =>
  rw [Dp] at h
  refine AH K D u rfl b d (Jm c d) (Jm c d) ?_
  refine rg [1,2,15,16,17,18] hs ?_
  apply Aa;intro K12 j
  refine Av h hs (fun hs h=>?_) (fun hs h=>?_)
  rotate_left
  ·refine sx [] hs H ?_
   exact ⟨([]),Rl10,ef hs,ef hs,d,h⟩
  refine sk [1,2,15,16,17] hs j ?_
  clear j
  apply Aa;intro K14 l
  apply Ad
  obtain ⟨g,w,h⟩:=bind_some h
  obtain ⟨G,J,p⟩:=Ao w
  have o:=Aq (f:=Cd) p
  have hs:=And.intro o hs
  refine rg [1,2,7,8,15,16,17] hs ?_
  obtain ⟨i,z,h⟩:=bind_some h
  obtain ⟨E,F,q⟩:=Ao z
  have t:=Aq (f:=Cd) q
  have hs:=And.intro t hs
  refine rg [1,2,8,9,15,16,17] hs ?_
  obtain ⟨O,y,h⟩:=bind_some h
  refine rc 2 [1,2,15,16,17,30] hs ?_;intro K19 k
  refine FY _ (ha2 g i _ y _ _ px d.pre) (hv hs) ?_
  refine ne hs k ?_
  clear k
  refine Av h hs (fun hs h=>?_) (fun hs h=>?_)
  ·refine rg [6] hs ?_
   exact rt h hs b d
  refine sk [1,2,15,16,17] hs l ?_
  clear l
  obtain ⟨N,h⟩:=Ac h
  refine rl [1,2,15,16,17] hs (fun e s=>Vl10 ml10 e s (Nat.lt_succ_self _)) ?_
  exact ⟨(a+1),([.val (.int .i64 g.1)::(.val (.string g.2.1)::(.val (.int .i64 g.2.2.1)::((g.2.2.2.1.cs)++([.list (g.2.2.2.2.map A1) .none])))),.val (.int .i64 i.1)::(.val (.string i.2.1)::(.val (.int .i64 i.2.2.1)::((i.2.2.2.1.cs)++([.list (i.2.2.2.2.map A1) .none]))))]),Rl10,ef hs,ef hs,d,h⟩
 ·clear h;rintro e st ⟨Xk7,Rk7,rfl,rfl,d,h⟩
  rw [EM] at h
  refine AH K D u rfl b d (Jm c d) (Jm c d) ?_
  refine rg [6] hs ?_
  exact rt h hs b d
def H6 (n:Nat)  : Option Bool :=
 some (true)
def E9 (n:Nat) (g:List ByteArray) (s:List ByteArray):Nat→Int→Option Bool
 | 0,_=>none
 | m+1,b =>
  if decide (b<(g.length:Int)) then
   (Cb g b).bind fun q =>
   (Cb s b).bind fun h =>
   if !(Dz q h) then
    some (false)
   else
    if BR (b+1) then
     (E9 n g s m) (b+1)
    else none
  else
   H6 n 
def Is (n:Nat) (g:List ByteArray) (b:List ByteArray):Option Bool :=
 if !(decide ((g.length:Int)=(b.length:Int))) then
  some (false)
 else
  E9 n g b n 0
theorem HY (w0:World) (n:Nat) (B:List (List AV)) (Rw:List RowA) (L:List LoopA) (a0:List ByteArray) (a1:List ByteArray) (r:Bool) (h:Is n a0 a1=some r) :
  ACalls Tryz.prog w0 204 [.list (a0.map Nb) .none,.list (a1.map Nb) .none] ⟨B,Rw,L⟩ fun x st=>x = .val (.bool r)∧st=⟨B,Rw,L⟩:=by
 rw [Is] at h
 refine hd [.tmp 4] Tryz.func204 Tryz.ntmps204 fun M0 W0 E u o b H c hs=>?_
 simp only [Am]
 refine rg [0,1] hs ?_
 apply Aa;intro K2 t
 refine rg [0,1,10] hs ?_
 refine Av h hs (fun hs h=>?_) (fun hs h=>?_)
 ·refine rg [4] hs ?_
  exact rt h hs b c
 refine sk [0,1] hs t ?_
 clear t
 refine Ak (fun e st=>Ck e st B Rw L [] [] [] (H6 n  = some r)) ?_ ?_
 ·intro K8 C
  refine rg [0,1,12,13] hs ?_
  apply Ad
  refine Ap (fun m e st=>∃ (a:Int),Ck e st B Rw L [(0,true,.list (a0.map Nb) .none),(1,true,.list (a1.map Nb) .none),(12,true,.val (.int .i64 (a0.length:Int))),(13,true,.val (.int .i64 a))] [] [] (E9 n a0 a1 m a=some r)) n ⟨0,([]),Rw,ef hs,ef hs,c,h⟩ ?_
  rintro ml10 e st ⟨a,Xl10,Rl10,rfl,rfl,c,h⟩ Ul10 Vl10
  cases ml10 with
  | zero=>cases h
  | succ ml10 =>
  rw [E9] at h
  refine td E u o b c ?_
  refine rg [0,1,12,13,14] hs ?_
  apply Aa;intro K12 d
  refine Av h hs (fun hs h=>?_) (fun hs h=>?_)
  rotate_left
  ·refine sx [] hs C ?_
   exact ⟨([]),Rl10,ef hs,ef hs,c,h⟩
  refine sk [0,1,12,13] hs d ?_
  clear d
  apply Aa;intro K14 g
  apply Ad
  refine rg [0,1,5,12,13] hs ?_
  obtain ⟨F,p,h⟩:=bind_some h
  obtain ⟨v,y,i⟩:=Ao p
  have j:=Aq (f:=Nb) i
  obtain ⟨G,q,h⟩:=bind_some h
  obtain ⟨w,z,k⟩:=Ao q
  have l:=Aq (f:=Nb) k
  have hs:=And.intro j hs
  have hs:=And.intro l hs
  refine dg 9 1 1 [0,1,12,13,24] hs Gm ?_
  refine Av h hs (fun hs h=>?_) (fun hs h=>?_)
  ·refine rg [4] hs ?_
   exact rt h hs b c
  refine sk [0,1,12,13] hs g ?_
  clear g
  obtain ⟨D,h⟩:=Ac h
  refine rl [0,1,12,13] hs (fun e s=>Vl10 ml10 e s (Nat.lt_succ_self _)) ?_
  exact ⟨(a+1),([]),Rl10,ef hs,ef hs,c,h⟩
 ·clear h;rintro e st ⟨Xk7,Rk7,rfl,rfl,c,h⟩
  rw [H6] at h
  refine td E u o b c ?_
  refine rg [4] hs ?_
  exact rt h hs b c
def Rz (rec:Ty→Ty→Option Bool) (n:Nat) (g:Ty) (b:Ty):Option Bool :=
 if (((decide (g.kind=b.kind))&&(decide (g.min=b.min)))&&(decide (g.max=b.max)))&&(decide (g.scale=b.scale)) then
  (Is n g.words b.words).bind fun y4 =>
  if y4 then
   (HB n g.elem b.elem (fun (q:Ty) (h:Ty)=>rec q h)).bind fun y =>
   if y then
    (E0 n g.fields b.fields (fun (q:Int × ByteArray × Int × Ty × List Vl) (h:Int × ByteArray × Int × Ty × List Vl)=>KX rec n q h)).bind fun s =>
    some (s)
   else
    some (false)
  else
   some (false)
 else
  some (false)
def OZ:Nat→Ty→Ty→Option Bool
 | 0,_,_=>none
 | n+1,g,b=>Rz (OZ n) n g b
def RN (w0:World) (F:Ty→Ty→Option Bool):Prop:=∀ (B:List (List AV)) (Rw:List RowA) (L:List LoopA) (g:Ty) (b:Ty) (r:Bool),F g b=some r→ACalls Tryz.prog w0 163 [.agg (g.cs),.agg (b.cs)] ⟨B,Rw,L⟩ fun x st=>x = .val (.bool r)∧st=⟨B,Rw,L⟩
theorem W4 (w0:World) (rec:Ty→Ty→Option Bool) (ih:RN w0 rec) (n:Nat):RN w0 (Rz rec n):=by
 intro B Rw L a0 a1 r h
 rw [Rz] at h
 refine hd [.tmp 4] Tryz.func163 Tryz.ntmps163 fun M0 W0 u t p a v l hs=>?_
 simp only [Am]
 refine rg [2,3] hs ?_
 apply Aa;intro K2 b
 rcases Bool.eq_false_or_eq_true ((((decide (a0.kind=a1.kind))&&(decide (a0.min=a1.min)))&&(decide (a0.max=a1.max)))&&(decide (a0.scale=a1.scale))) with hf3 | hf3
 ·replace h:=AO h hf3
  obtain ⟨q,f,h⟩:=bind_some h
  rcases Bool.eq_false_or_eq_true (q) with hf5 | hf5
  ·replace h:=AO h hf5
   obtain ⟨s,i,h⟩:=bind_some h
   rcases Bool.eq_false_or_eq_true (s) with hf7 | hf7
   ·replace h:=AO h hf7
    obtain ⟨w,m,h⟩:=bind_some h
    have hs:=And.intro hf3 hs
    have hs:=And.intro hf5 hs
    have hs:=And.intro hf7 hs
    refine rk 4 [4] (al hs) ?_
    refine Ab _ (HY w0 n _ _ _ a0.words a1.words _ f) (hv (al hs)) ?_
    refine nc (al hs) ?_
    refine Ab _ (Jq w0 n _ _ _ a0.elem a1.elem 163 [] (fun (d:Ty) (c:Ty)=>rec d c) (fun d c r j o e k g=>by exact ih _ _ _ d c _ j) _ i) (hv (al hs)) ?_
    refine nc (al hs) ?_
    refine Ab _ (KN w0 n _ _ _ a0.fields a1.fields 207 [] (fun (d:Int × ByteArray × Int × Ty × List Vl) (c:Int × ByteArray × Int × Ty × List Vl)=>KX rec n d c) (fun d c r j o e k g=>by exact WH w0 rec ih n _ _ _ d c _ j) _ m) (hv (al hs)) ?_
    refine ne (al hs) b ?_
    clear b
    exact rt h hs a l
   ·replace h:=AN h hf7
    have hs:=And.intro hf3 hs
    have hs:=And.intro hf5 hs
    have hs:=And.intro hf7 hs
    refine rk 4 [4] (al hs) ?_
    refine Ab _ (HY w0 n _ _ _ a0.words a1.words _ f) (hv (al hs)) ?_
    refine nc (al hs) ?_
    refine Ab _ (Jq w0 n _ _ _ a0.elem a1.elem 163 [] (fun (d:Ty) (c:Ty)=>rec d c) (fun d c r j o e k g=>by exact ih _ _ _ d c _ j) _ i) (hv (al hs)) ?_
    refine nc (al hs) ?_
    refine As ?_
    refine ne (al hs) b ?_
    clear b
    exact rt h hs a l
  ·replace h:=AN h hf5
   have hs:=And.intro hf3 hs
   have hs:=And.intro hf5 hs
   refine rk 4 [4] (al hs) ?_
   refine Ab _ (HY w0 n _ _ _ a0.words a1.words _ f) (hv (al hs)) ?_
   refine nc (al hs) ?_
   refine As ?_
   refine nc (al hs) ?_
   refine As ?_
   refine ne (al hs) b ?_
   clear b
   exact rt h hs a l
 ·replace h:=AN h hf3
  have hs:=And.intro hf3 hs
  refine rk 4 [4] (al hs) ?_
  refine As ?_
  refine nc (al hs) ?_
  refine As ?_
  refine nc (al hs) ?_
  refine As ?_
  refine ne (al hs) b ?_
  clear b
  exact rt h hs a l
theorem UZ (w0:World):∀ n:Nat,RN w0 (OZ n)
 | 0=>fun _ _ _ _ _ _ h=>(nomatch h)
 | n+1=>W4 w0 (OZ n) (UZ w0 n) n
theorem Zc3 {a b:Nat}:decide ((a:Int)≤(b:Int))=decide (a≤b):=decide_eq_decide.2 ⟨fun h=>by omega,fun h=>by omega⟩
theorem TP (n:Nat) (a b:List (Vl)) (f:Vl→Vl→Option Int) (hl:a.length≤1000000000)
  (hr:∀ p∈a,∀ q∈b,∃ c,f p q=some c∧(c=0↔p=q)):∀ (k m i:Nat),i+k=a.length→k<m→∃ c,BE n a b f m i=some c∧(c=0↔a.drop i=b.drop i)
 | k,0,i,_,h=>absurd h (Nat.not_lt_zero _)
 | 0,m+1,i,hi,_=>by
  rw [BE,An,decide_eq_false (by omega)]
  simp only [Bool.false_eq_true,if_false]
  rw [D1,An,List.drop_eq_nil_of_le (show a.length≤i by omega)]
  by_cases h:a.length<b.length
  ·rw [decide_eq_true h]
   simp only [if_true]
   exact ⟨-1,rfl,⟨fun h=>absurd h (by decide),fun e=>by have:=List.drop_eq_nil_iff.1 e.symm;omega⟩⟩
  ·rw [decide_eq_false h]
   simp only [Bool.false_eq_true,if_false]
   exact ⟨0,rfl,⟨fun _=>(List.drop_eq_nil_of_le (by omega)).symm,fun _=>rfl⟩⟩
 | k+1,m+1,i,hi,hm=>by
  have g:i<a.length:=by omega
  rw [BE,An,decide_eq_true g]
  simp only [if_true,Au g,Option.bind_some,Zc3]
  by_cases d:i<b.length
  ·rw [decide_eq_false (show ¬ b.length≤i by omega)]
   simp only [Bool.false_eq_true,if_false,Au d,Option.bind_some]
   obtain ⟨c,e,j⟩:=hr _ (List.getElem_mem g) _ (List.getElem_mem d)
   rw [e,SE _ _ i g d]
   simp only [Option.bind_some]
   by_cases h0:c=0
   ·rw [decide_eq_true h0]
    simp only [Bool.not_true,Bool.false_eq_true,if_false]
    rw [if_pos (Ar (by omega))]
    obtain ⟨o,l,d⟩:=TP n a b f hl hr k m (i+1) (by omega) (by omega)
    exact ⟨o,l,d.trans ⟨fun h=>⟨j.1 h0,h⟩,fun h=>h.2⟩⟩
   ·rw [decide_eq_false h0]
    simp only [Bool.not_false,if_true]
    exact ⟨c,rfl,⟨fun h=>absurd h h0,fun h=>absurd (j.2 h.1) h0⟩⟩
  ·rw [decide_eq_true (show b.length≤i by omega)]
   simp only [if_true]
   refine ⟨1,rfl,⟨fun h=>absurd h (by decide),fun e=>?_⟩⟩
   rw [List.drop_eq_nil_of_le (show b.length≤i by omega)] at e
   have:=List.drop_eq_nil_iff.1 e
   omega
theorem ZN (n:Nat) (a b:List (Vl)) (f:Vl→Vl→Option Int) (hl:a.length≤1000000000) (hn:a.length<n)
  (hr:∀ p∈a,∀ q∈b,∃ c,f p q=some c∧(c=0↔p=q)):∃ c,Ef n a b f=some c∧(c=0↔a=b) :=
 TP n a b f hl hr a.length n 0 (by omega) hn
theorem UG (n:Nat) (a b:List (ByteArray × Vl)) (f:ByteArray × Vl→ByteArray × Vl→Option Int) (hl:a.length≤1000000000)
  (hr:∀ p∈a,∀ q∈b,∃ c,f p q=some c∧(c=0↔p=q)):∀ (k m i:Nat),i+k=a.length→k<m→∃ c,BH n a b f m i=some c∧(c=0↔a.drop i=b.drop i)
 | k,0,i,_,h=>absurd h (Nat.not_lt_zero _)
 | 0,m+1,i,hi,_=>by
  rw [BH,An,decide_eq_false (by omega)]
  simp only [Bool.false_eq_true,if_false]
  rw [D4,An,List.drop_eq_nil_of_le (show a.length≤i by omega)]
  by_cases h:a.length<b.length
  ·rw [decide_eq_true h]
   simp only [if_true]
   exact ⟨-1,rfl,⟨fun h=>absurd h (by decide),fun e=>by have:=List.drop_eq_nil_iff.1 e.symm;omega⟩⟩
  ·rw [decide_eq_false h]
   simp only [Bool.false_eq_true,if_false]
   exact ⟨0,rfl,⟨fun _=>(List.drop_eq_nil_of_le (by omega)).symm,fun _=>rfl⟩⟩
 | k+1,m+1,i,hi,hm=>by
  have g:i<a.length:=by omega
  rw [BH,An,decide_eq_true g]
  simp only [if_true,Au g,Option.bind_some,Zc3]
  by_cases d:i<b.length
  ·rw [decide_eq_false (show ¬ b.length≤i by omega)]
   simp only [Bool.false_eq_true,if_false,Au d,Option.bind_some]
   obtain ⟨c,e,j⟩:=hr _ (List.getElem_mem g) _ (List.getElem_mem d)
   rw [e,SE _ _ i g d]
   simp only [Option.bind_some]
   by_cases h0:c=0
   ·rw [decide_eq_true h0]
    simp only [Bool.not_true,Bool.false_eq_true,if_false]
    rw [if_pos (Ar (by omega))]
    obtain ⟨o,l,d⟩:=UG n a b f hl hr k m (i+1) (by omega) (by omega)
    exact ⟨o,l,d.trans ⟨fun h=>⟨j.1 h0,h⟩,fun h=>h.2⟩⟩
   ·rw [decide_eq_false h0]
    simp only [Bool.not_false,if_true]
    exact ⟨c,rfl,⟨fun h=>absurd h h0,fun h=>absurd (j.2 h.1) h0⟩⟩
  ·rw [decide_eq_true (show b.length≤i by omega)]
   simp only [if_true]
   refine ⟨1,rfl,⟨fun h=>absurd h (by decide),fun e=>?_⟩⟩
   rw [List.drop_eq_nil_of_le (show b.length≤i by omega)] at e
   have:=List.drop_eq_nil_iff.1 e
   omega
theorem ZK (n:Nat) (a b:List (ByteArray × Vl)) (f:ByteArray × Vl→ByteArray × Vl→Option Int) (hl:a.length≤1000000000) (hn:a.length<n)
  (hr:∀ p∈a,∀ q∈b,∃ c,f p q=some c∧(c=0↔p=q)):∃ c,Ee n a b f=some c∧(c=0↔a=b) :=
 UG n a b f hl hr a.length n 0 (by omega) hn
theorem ZfX (n:Nat) (l:List Int) (hl:l.length≤1000000000):∀ (k m i:Nat),i+k=l.length→k<m→∃ c,EX n l m i=some c∧(c=0↔∀ x∈l.drop i,x=0)
 | k,0,i,_,h=>absurd h (Nat.not_lt_zero _)
 | 0,m+1,i,hi,_=>by
  rw [EX,An,decide_eq_false (by omega)]
  simp only [Bool.false_eq_true,if_false]
  exact ⟨0,rfl,by rw [List.drop_eq_nil_of_le (by omega)];simp⟩
 | k+1,m+1,i,hi,hm=>by
  have a:i<l.length:=by omega
  rw [EX,An,decide_eq_true a]
  simp only [if_true,Au a,Option.bind_some]
  rw [List.drop_eq_getElem_cons a]
  by_cases h0:l[i]=0
  ·rw [decide_eq_true h0]
   simp only [Bool.not_true,Bool.false_eq_true,if_false]
   rw [if_pos (Ar (by omega))]
   obtain ⟨e,d,b⟩:=ZfX n l hl k m (i+1) (by omega) (by omega)
   exact ⟨e,d,b.trans ⟨fun h x hx=>by rcases List.mem_cons.1 hx with rfl | hx;exact h0;exact h x hx,fun h x hx=>h x (List.mem_cons_of_mem _ hx)⟩⟩
  ·rw [decide_eq_false h0]
   simp only [Bool.not_false,if_true]
   exact ⟨_,rfl,⟨fun h=>absurd h h0,fun h=>absurd (h _ (List.mem_cons_self ..)) h0⟩⟩
theorem Zgi (n:Nat) (l:List Int) (hl:l.length<n) (h2:l.length≤1000000000):∃ c,Iu n l=some c∧(c=0↔∀ x∈l,x=0):=ZfX n l h2 l.length n 0 (by omega) hl
theorem Zbw (a b:Int):(if a<b then (-1:Int) else if a=b then 0 else 1)=0↔a=b:=by
 by_cases h1:a<b
 ·rw [if_pos h1];omega
 ·rw [if_neg h1]
  by_cases h2:a=b
  ·simp [h2]
  ·simp [h2]
theorem Vl.lens' (v:Vl):v.list.length<v.size∧v.fields.length<v.size:=by have:=M5 v.list;have:=Ny v.fields;have:=v.size_eq;omega
theorem Og:∀ (n:Nat) (a b:Vl),a.size+10≤n→a.size≤1000000000→∃ c,FX n a b=some c∧(c=0↔a=b)
 | 0,a,b,h,_=>by omega
 | n+1,a,b,h,hs=>by
  have w:=a.lens'
  rw [FX,K0]
  obtain ⟨s,u,m⟩:=ZN n a.list b.list (fun x y=>FX n x y) (by omega) (by omega) (fun p d q _=>Og n p q (by have:=a.list_size p d;omega) (by have:=a.list_size p d;omega))
  obtain ⟨i,g,f⟩:=ZK n a.fields b.fields (fun x y=>GA (FX n) n x y) (by omega) (by omega) (fun p d q _=>by
   obtain ⟨c,e,j⟩:=Og n p.2 q.2 (by have:=a.field_size p d;omega) (by have:=a.field_size p d;omega)
   obtain ⟨i,g,f⟩:=Zgi n [Eh p.1 q.1,c] (by simp;omega) (by simp)
   refine ⟨i,by rw [GA,e,Option.bind_some,g];rfl,f.trans ?_⟩
   simp only [List.mem_cons,List.not_mem_nil,or_false,forall_eq_or_imp,forall_eq,I6,j]
   exact ⟨fun h=>Prod.ext h.1 h.2,fun h=>by rw [h];exact ⟨rfl,rfl⟩⟩)
  rw [u,Option.bind_some,g,Option.bind_some]
  obtain ⟨c,e,j⟩:=Zgi n [if a.kind<b.kind then -1 else if a.kind=b.kind then 0 else 1,if a.int<b.int then -1 else if a.int=b.int then 0 else 1,if a.scale<b.scale then -1 else if a.scale=b.scale then 0 else 1,Eh a.text b.text,s,i] (by simp;omega) (by simp)
  refine ⟨c,by rw [e];rfl,j.trans ?_⟩
  simp only [List.mem_cons,List.not_mem_nil,or_false,forall_eq_or_imp,forall_eq,I6,Zbw,m,f]
  exact ⟨fun ⟨t,v,o,r,l,k⟩=>Vl.ext' t v o r l k,fun h=>by rw [h];exact ⟨rfl,rfl,rfl,rfl,rfl,rfl⟩⟩
theorem ZbU (n:Nat) (a b:Vl) (h:a.size+10≤n) (hs:a.size≤1000000000):∃ c,Ia n a b=some c∧(c=true↔a=b):=by
 obtain ⟨c,e,d⟩:=Og n a b h hs
 exact ⟨decide (c=0),by rw [Ia,e];rfl,by rw [decide_eq_true_eq];exact d⟩
theorem ZhH {v:Vl} (h:¬ B5 v=true):(¬ ((1≤v.kind∧v.kind≤3)∨v.kind=6∨v.kind=7)→v.int=0)∧(v.kind≠3→v.scale=0)∧(¬ (v.kind=4∨v.kind=5∨v.kind=10)→Dz v.text ⟨#[]⟩=true)∧(v.kind≠8→v.kind≠10→v.list.length=0)∧(v.kind≠9→v.fields.length=0):=by
 simp only [B5,Bool.or_eq_true,Bool.and_eq_true,Bool.not_eq_true',Bool.or_eq_false_iff,Bool.and_eq_false_iff,decide_eq_false_iff_not,decide_eq_true_eq,not_or,not_and] at h
 obtain ⟨⟨⟨⟨d,c⟩,b⟩,e⟩,f⟩:=h
 refine ⟨fun q=>?_,fun q=>?_,fun q=>?_,fun q a=>?_,fun q=>?_⟩
 ·by_cases z:v.int=0
  ·exact z
  ·exact absurd z (d (by omega))
 ·by_cases z:v.scale=0
  ·exact z
  ·exact absurd z (c q)
 ·cases z:Dz v.text ⟨#[]⟩ with
  | true=>rfl
  | false=>exact absurd z (b (by omega))
 ·have:=e ⟨q,a⟩;omega
 ·have:=f q;omega
theorem Zap:∀ (l:List (ByteArray × Vl)) (o:Option ByteArray),O8 o (l.map Prod.fst)=0→SS l∧∀ w,o=some w→∀ p∈l,Eh w p.1<0
 | [],o,_=>⟨.nil,by simp⟩
 | p::r,o,h=>by
  rw [List.map_cons] at h
  have a:O8 (some p.1) (r.map Prod.fst)=0∧∀ w,o=some w→Eh w p.1<0:=by
   cases o with
   | none =>
    rw [O8] at h
    split at h
    ·exact ⟨h,fun w q=>by cases q⟩
    ·cases h
   | some w =>
    rw [O8] at h
    split at h
    ·split at h
     ·cases h
     ·split at h
      ·cases h
      ·rename_i e1 e2
       refine ⟨h,fun u q=>?_⟩
       cases q
       rw [XG,decide_eq_true_eq] at e2
       have e:=OQ w p.1
       have:Eh p.1 w≠0:=fun z=>e1 ((EE _ _).2 ((I6 _ _).1 z))
       omega
    ·cases h
  obtain ⟨d,b⟩:=Zap r (some p.1) a.1
  refine ⟨List.pairwise_cons.2 ⟨fun q hq=>b p.1 rfl q hq,d⟩,fun w c q hq=>?_⟩
  rcases List.mem_cons.1 hq with rfl | hq
  ·exact a.2 w c
  ·exact O0 (a.2 w c) (b p.1 rfl q hq)
theorem Z6 {v:Vl} (h:E3 v=0):A5 v=true:=by
 obtain ⟨a,b⟩:=MN h
 obtain ⟨u1,u2,u3,u4,u5⟩:=ZhH b
 have c:¬ BO v=true:=fun q=>by rw [E3,if_pos q] at h;exact absurd h (by decide)
 rw [E3,if_neg c,if_neg a,if_neg b] at h
 rcases G3 a with tk | tk | tk | tk | tk | tk | tk | tk | tk | tk
 ·rw [if_pos tk] at h
  split at h
  ·cases h
  ·rename_i q
   rw [B8] at q
   simp only [Bool.or_eq_true,decide_eq_true_eq,not_or] at q
   have:v.int=0∨v.int=1:=by omega
   rcases this with z | z<;>simp [A5,bare,tk,u2,u3,u4,u5,z]
 ·simp [A5,bare,tk,u2,u3,u4,u5]
 ·simp [A5,bare,tk,u2,u3,u4,u5]
 ·rw [if_neg (by omega),if_neg (by omega),if_neg (by omega),if_pos tk] at h
  split at h
  ·cases h
  ·split at h
   ·rename_i q;simp [A5,bare,tk,u1,u2,u3,u4,u5,q]
   ·cases h
 ·simp [A5,bare,tk,u1,u2,u3,u4,u5]
 ·simp [A5,bare,tk,u1,u2,u3,u4,u5]
 ·simp [A5,bare,tk,u1,u2,u3,u4,u5]
 ·simp [A5,bare,tk,u1,u2,u3,u4,u5]
 ·rw [if_neg (by omega),if_neg (by omega),if_neg (by omega),if_neg (by omega),if_neg (by omega),if_neg (by omega),if_neg (by omega),if_neg (by omega),if_pos tk] at h
  split at h
  ·cases h
  ·have:=(W6 v.fields).2 (Zap v.fields none h).1
   simp [A5,bare,tk,u1,u2,u3,u4,u5,this]
 ·rw [if_neg (by omega),if_neg (by omega),if_neg (by omega),if_neg (by omega),if_neg (by omega),if_neg (by omega),if_neg (by omega),if_neg (by omega),if_neg (by omega)] at h
  split at h
  ·split at h
   ·cases h
   ·split at h
    ·cases h
    ·have:v.list.length=1:=by omega
     simp [A5,bare,tk,u1,u2,u3,u4,u5,this]
  ·cases h
def WI (e:Nat) (t:Ty) (v:Vl):Prop:=EI e t v=true∧BZ e t v=v
theorem Oy {t:Ty} {v:Vl} (k:1≤t.kind∧t.kind≤10) (hk:v.kind=t.kind) (hf:A5 v=true):¬ ((t.kind<1∨10<t.kind)∨v.kind≠t.kind∨A5 v=false):=by
 rintro (q | q | q)
 ·omega
 ·exact q hk
 ·rw [hf] at q;cases q
theorem Zr {t:Ty} {v:Vl} (hk:v.kind=t.kind) (hf:A5 v=true):¬ (v.kind≠t.kind∨A5 v=false):=by
 rintro (q | q)
 ·exact q hk
 ·rw [hf] at q;cases q
theorem ZC {f:Ty→Vl→Vl} {t:Ty} {v:Vl} (h8:t.kind≠8) (h9:t.kind≠9) (h10:t.kind≠10):Dx f t v=v:=by rw [Dx,if_neg h8,if_neg h9,if_neg h10]
theorem Gy {e:Nat} {t:Ty} {v:Vl} (h8:t.kind≠8) (h9:t.kind≠9) (h10:t.kind≠10) (h:EI (e+1) t v=true):WI (e+1) t v:=by
 refine ⟨h,?_⟩
 rw [BZ]
 split
 ·rfl
 ·exact ZC h8 h9 h10
theorem YH {α:Type} {l:List α} {f:α→α} (h:∀ x∈l,f x=x):l.map f=l:=by
 conv=>rhs;rw [←List.map_id l]
 exact List.map_congr_left fun x a=>h x a
theorem Wa {e:Nat} {t x:Ty} {v:Vl} (tk:t.kind=8) (vk:v.kind=8) (hf:A5 v=true) (hx:t.elem=[x]) (hb:Lp v.list.length t=true) (h:∀ u∈v.list,WI e x u):WI (e+1) t v:=by
 constructor
 ·rw [EI,if_neg (Oy (by omega) (by omega) hf),if_neg (by omega),if_neg (by omega),if_neg (by omega),if_neg (by omega),if_pos tk,hb,Bool.true_and,List.all_eq_true]
  intro u a
  rw [hx];exact (h u a).1
 ·rw [BZ,if_neg (Zr (by omega) hf),if_neg (by omega),Dx,if_pos tk,hx]
  simp only
  rw [YH fun u a=>(h u a).2,Vl.eta]
theorem VJ {e:Nat} {t:Ty} {v x:Vl} {p:TF} (tk:t.kind=10) (vk:v.kind=10) (hf:A5 v=true) (hp:Bj t v.text=some p) (hx:v.list=[x]) (h:WI e p.2.2.2.1 x):WI (e+1) t v:=by
 constructor
 ·rw [EI,if_neg (Oy (by omega) (by omega) hf),if_neg (by omega),if_neg (by omega),if_neg (by omega),if_neg (by omega),if_neg (by omega),if_neg (by omega),if_pos tk,hp,hx]
  exact h.1
 ·rw [BZ,if_neg (Zr (by omega) hf),if_neg (by omega),Dx,if_neg (by omega),if_neg (by omega),if_pos tk,hp,hx]
  simp only
  rw [h.2,←hx,Vl.eta]
theorem Zas:∀ (ps:List TF) (l:List (ByteArray × Vl)),(∀ p∈ps,p.2.2.1=3→Yv l p.2.1=true)→OB ps l=l
 | [],l,_=>rfl
 | p::ps,l,h=>by
  rw [OB,Zb9]
  have ih:=Zas ps l fun q a=>h q (List.mem_cons_of_mem _ a)
  by_cases c:p.2.2.1=3∧p.2.2.2.2.length=1
  ·rw [if_pos c,List.getElem?_eq_getElem (by omega)]
   simp only
   rw [if_pos (h p (List.mem_cons_self ..) c.1)]
   exact ih
  ·rw [if_neg c];exact ih
theorem Va {v:Vl} (hs:SS v.fields) {q:ByteArray × Vl} (hq:q∈v.fields):Df v q.1=some q.2:=by
 rw [Df]
 cases c:v.fields.find? (fun x=>Dz x.1 q.1) with
 | none =>
  rw [List.find?_eq_none] at c
  exact absurd (HD q.1) (c q hq)
 | some z =>
  have e:=List.mem_of_find?_eq_some c
  have b:z.1=q.1:=(EE _ _).1 (List.find?_some (p:=fun x:ByteArray × Vl=>Dz x.1 q.1) c)
  have:z=q:=by
   obtain ⟨i,a,rfl⟩:=List.mem_iff_getElem.1 e
   obtain ⟨j,d,rfl⟩:=List.mem_iff_getElem.1 hq
   rcases Nat.lt_trichotomy i j with w | w | w
   ·have:=List.pairwise_iff_getElem.1 hs i j a d w
    rw [b,Q5] at this;omega
   ·subst w;rfl
   ·have:=List.pairwise_iff_getElem.1 hs j i d a w
    rw [b,Q5] at this;omega
  rw [this];rfl
theorem ZF {v y:Vl} {w:ByteArray} (h:Df v w=some y):Yv v.fields w=true:=by
 obtain ⟨q,a,e,_⟩:=Kp h
 exact MS.2 ⟨q,a,e⟩
theorem Zb {e:Nat} {t:Ty} {v:Vl} (tk:t.kind=9) (vk:v.kind=9) (hf:A5 v=true) (h1:∀ p∈t.fields,(∃ y,Df v p.2.1=some y∧WI e p.2.2.2.1 y)∨(Df v p.2.1=none∧p.2.2.1=2)) (h2:∀ q∈v.fields,(Bj t q.1).isSome=true):WI (e+1) t v:=by
 have hs:=V7 hf vk
 constructor
 ·rw [EI,if_neg (Oy (by omega) (by omega) hf),if_neg (by omega),if_neg (by omega),if_neg (by omega),if_neg (by omega),if_neg (by omega),if_pos tk,Bool.and_eq_true,List.all_eq_true,List.all_eq_true]
  refine ⟨fun p a=>?_,h2⟩
  rcases h1 p a with ⟨y,hy,hd⟩ | ⟨hy,hd⟩
  ·rw [hy];exact hd.1
  ·rw [hy];exact decide_eq_true hd
 ·have f:Dx (BZ e) t v=v:=by
   rw [Dx,if_neg (by omega),if_pos tk]
   refine (congrArg (Vw v) (YH (l:=v.fields) fun q d=>?_)).trans (Vl.eta v)
   split
   ·rename_i p c
    obtain ⟨a,b⟩:=DN c
    have hv:=Va hs d
    rcases h1 p a with ⟨y,hy,hd⟩ | ⟨hy,_⟩
    ·rw [b,hv] at hy
     cases hy
     rw [hd.2]
    ·rw [b,hv] at hy;cases hy
   ·rfl
  rw [BZ,if_neg (Zr (by omega) hf),if_pos tk,f,Zas t.fields v.fields fun p a g=>?_]
  ·exact Vl.eta v
  ·rcases h1 p a with ⟨y,hy,_⟩ | ⟨_,h⟩
   ·exact ZF hy
   ·omega
def Je (rec:Ty→Ty→Option Bool) (n:Nat) (h:Ty) (b:Int × ByteArray × Int × Ty × List Vl):Option Bool :=
 (Dh n h.fields b.1).bind fun g =>
 if !g.2 then
  some (!(decide (b.2.2.1=1)))
 else
  (rec g.1.2.2.2.1 b.2.2.2.1).bind fun q =>
  some (q&&(!((decide (b.2.2.1=1))&&(decide (g.1.2.2.1=2)))))
theorem UV (w0:World) (rec:Ty→Ty→Option Bool) (ih:∀ (B:List (List AV)) (Rw:List RowA) (L:List LoopA) (a0:Ty) (a1:Ty) (r:Bool) (h:rec a0 a1=some r),ACalls Tryz.prog w0 90 [.agg (a0.cs),.agg (a1.cs)] ⟨B,Rw,L⟩ fun x st=>x = .val (.bool r)∧st=⟨B,Rw,L⟩) (n:Nat) (B:List (List AV)) (Rw:List RowA) (L:List LoopA) (a0:Ty) (a1:Int × ByteArray × Int × Ty × List Vl) (r:Bool) (h:Je rec n a0 a1=some r) :
  ACalls Tryz.prog w0 152 [.agg (a0.cs),.agg (.val (.int .i64 a1.1)::(.val (.string a1.2.1)::(.val (.int .i64 a1.2.2.1)::((a1.2.2.2.1.cs)++([.list (a1.2.2.2.2.map A1) .none])))))] ⟨B,Rw,L⟩ fun x st=>x = .val (.bool r)∧st=⟨B,Rw,L⟩:=by
 rw [Je] at h
 refine hd [.tmp 4] Tryz.func152 Tryz.ntmps152 fun M0 W0 m k i a o g hs=>?_
 simp only [Am]
 refine rg [2,3] hs ?_
 obtain ⟨j,f,h⟩:=bind_some h
 refine rc 2 [3,5,6] hs ?_;intro K2 d
 refine Ab _ (Ft w0 n _ _ _ a0.fields a1.1 _ f) (hv hs) ?_
 refine ne hs d ?_
 clear d
 apply Aa;intro K4 b
 refine rg [3,5,16] hs ?_
 refine Av h hs (fun hs h=>?_) (fun hs h=>?_)
 ·refine rg [4] hs ?_
  exact rt h hs a g
 refine sk [3,5] hs b ?_
 clear b
 obtain ⟨l,e,h⟩:=bind_some h
 refine rc 2 [4] hs ?_;intro K8 c
 refine Ab _ (ih _ _ _ j.1.2.2.2.1 a1.2.2.2.1 _ e) (hv hs) ?_
 refine ne hs c ?_
 clear c
 exact rt h hs a g
def CG (rec:Ty→Ty→Option Bool) (n:Nat) (g:Int × ByteArray × Int × Ty × List Vl) (b:Ty):Option Bool :=
 (Je rec n b g).bind fun h =>
 some (!h)
theorem M4 (w0:World) (rec:Ty→Ty→Option Bool) (ih:∀ (B:List (List AV)) (Rw:List RowA) (L:List LoopA) (a0:Ty) (a1:Ty) (r:Bool) (h:rec a0 a1=some r),ACalls Tryz.prog w0 90 [.agg (a0.cs),.agg (a1.cs)] ⟨B,Rw,L⟩ fun x st=>x = .val (.bool r)∧st=⟨B,Rw,L⟩) (n:Nat) (B:List (List AV)) (Rw:List RowA) (L:List LoopA) (a0:Int × ByteArray × Int × Ty × List Vl) (la1:Nat) (a1:Ty) (hla1:B[la1]? = some (a1.cs)) (r:Bool) (h:CG rec n a0 a1=some r) :
  ACalls Tryz.prog w0 151 [.agg (.val (.int .i64 a0.1)::(.val (.string a0.2.1)::(.val (.int .i64 a0.2.2.1)::((a0.2.2.2.1.cs)++([.list (a0.2.2.2.2.map A1) .none]))))),.box la1 0] ⟨B,Rw,L⟩ fun x st=>x = .val (.bool r)∧st=⟨B,Rw,L⟩:=by
 rw [CG] at h
 refine hd [.tmp 3] Tryz.func151 Tryz.ntmps151 fun M0 W0 i g f a k e hs=>?_
 simp only [Am]
 have c:=(List.getElem?_eq_some_iff.1 hla1).1
 have hs:=And.intro (Af hla1) hs
 refine rg [1,2] hs ?_
 obtain ⟨j,d,h⟩:=bind_some h
 refine rc 2 [3] hs ?_;intro K2 b
 refine Ab _ (UV w0 rec ih n _ _ _ a1 a0 _ d) (hv hs) ?_
 refine ne hs b ?_
 clear b
 exact rt h hs a e
def Iz (rec:Ty→Ty→Option Bool) (n:Nat) (b:Int × ByteArray × Int × Ty × List Vl) (h:Ty):Option Bool :=
 (Dh n h.fields b.1).bind fun g =>
 if g.2 then
  (rec b.2.2.2.1 g.1.2.2.2.1).bind fun q =>
  some (q)
 else
  some (false)
theorem SK (w0:World) (rec:Ty→Ty→Option Bool) (ih:∀ (B:List (List AV)) (Rw:List RowA) (L:List LoopA) (a0:Ty) (a1:Ty) (r:Bool) (h:rec a0 a1=some r),ACalls Tryz.prog w0 90 [.agg (a0.cs),.agg (a1.cs)] ⟨B,Rw,L⟩ fun x st=>x = .val (.bool r)∧st=⟨B,Rw,L⟩) (n:Nat) (B:List (List AV)) (Rw:List RowA) (L:List LoopA) (a0:Int × ByteArray × Int × Ty × List Vl) (a1:Ty) (r:Bool) (h:Iz rec n a0 a1=some r) :
  ACalls Tryz.prog w0 154 [.agg (.val (.int .i64 a0.1)::(.val (.string a0.2.1)::(.val (.int .i64 a0.2.2.1)::((a0.2.2.2.1.cs)++([.list (a0.2.2.2.2.map A1) .none]))))),.agg (a1.cs)] ⟨B,Rw,L⟩ fun x st=>x = .val (.bool r)∧st=⟨B,Rw,L⟩:=by
 rw [Iz] at h
 refine hd [.tmp 4] Tryz.func154 Tryz.ntmps154 fun M0 W0 l j i a k f hs=>?_
 simp only [Am]
 refine rg [2,3] hs ?_
 obtain ⟨g,e,h⟩:=bind_some h
 refine rc 2 [2,5,6] hs ?_;intro K2 c
 refine Ab _ (Ft w0 n _ _ _ a1.fields a0.1 _ e) (hv hs) ?_
 refine ne hs c ?_
 clear c
 apply Aa;intro K4 b
 rcases Bool.eq_false_or_eq_true (g.2) with hf5 | hf5
 ·replace h:=AO h hf5
  obtain ⟨m,d,h⟩:=bind_some h
  have hs:=And.intro hf5 hs
  refine rk 2 [4] hs ?_
  refine Ab _ (ih _ _ _ a0.2.2.2.1 g.1.2.2.2.1 _ d) (hv hs) ?_
  refine ne hs b ?_
  clear b
  exact rt h hs a f
 ·replace h:=AN h hf5
  have hs:=And.intro hf5 hs
  refine rk 2 [4] hs ?_
  refine As ?_
  refine ne hs b ?_
  clear b
  exact rt h hs a f
def CE (rec:Ty→Ty→Option Bool) (n:Nat) (g:Int × ByteArray × Int × Ty × List Vl) (b:Ty):Option Bool :=
 (Iz rec n g b).bind fun h =>
 some (!h)
theorem Nl (w0:World) (rec:Ty→Ty→Option Bool) (ih:∀ (B:List (List AV)) (Rw:List RowA) (L:List LoopA) (a0:Ty) (a1:Ty) (r:Bool) (h:rec a0 a1=some r),ACalls Tryz.prog w0 90 [.agg (a0.cs),.agg (a1.cs)] ⟨B,Rw,L⟩ fun x st=>x = .val (.bool r)∧st=⟨B,Rw,L⟩) (n:Nat) (B:List (List AV)) (Rw:List RowA) (L:List LoopA) (a0:Int × ByteArray × Int × Ty × List Vl) (la1:Nat) (a1:Ty) (hla1:B[la1]? = some (a1.cs)) (r:Bool) (h:CE rec n a0 a1=some r) :
  ACalls Tryz.prog w0 153 [.agg (.val (.int .i64 a0.1)::(.val (.string a0.2.1)::(.val (.int .i64 a0.2.2.1)::((a0.2.2.2.1.cs)++([.list (a0.2.2.2.2.map A1) .none]))))),.box la1 0] ⟨B,Rw,L⟩ fun x st=>x = .val (.bool r)∧st=⟨B,Rw,L⟩:=by
 rw [CE] at h
 refine hd [.tmp 3] Tryz.func153 Tryz.ntmps153 fun M0 W0 i g f a k e hs=>?_
 simp only [Am]
 have c:=(List.getElem?_eq_some_iff.1 hla1).1
 have hs:=And.intro (Af hla1) hs
 refine rg [1,2] hs ?_
 obtain ⟨j,d,h⟩:=bind_some h
 refine rc 2 [3] hs ?_;intro K2 b
 refine Ab _ (SK w0 rec ih n _ _ _ a0 a1 _ d) (hv hs) ?_
 refine ne hs b ?_
 clear b
 exact rt h hs a e
def Fq (n:Nat) (b:Ty) (g:Ty):Option Bool :=
 (Da n b.min b.scale g.scale).bind fun q =>
 (Da n b.max b.scale g.scale).bind fun h =>
 some ((((q.2&&h.2)&&(A8 q.1 g))&&(A8 h.1 g))&&((decide (b.scale≤g.scale))||(decide (b.min=b.max))))
theorem QV (w0:World) (n:Nat) (B:List (List AV)) (Rw:List RowA) (L:List LoopA) (a0:Ty) (a1:Ty) (r:Bool) (h:Fq n a0 a1=some r) :
  ACalls Tryz.prog w0 147 [.agg (a0.cs),.agg (a1.cs)] ⟨B,Rw,L⟩ fun x st=>x = .val (.bool r)∧st=⟨B,Rw,L⟩:=by
 rw [Fq] at h
 refine hd [.tmp 4] Tryz.func147 Tryz.ntmps147 fun M0 W0 m l i a o g hs=>?_
 simp only [Am]
 refine rg [2,3] hs ?_
 obtain ⟨j,f,h⟩:=bind_some h
 refine rc 2 [2,3,5,6] hs ?_;intro K2 d
 refine Ab _ (IA w0 n _ _ _ a0.min a0.scale a1.scale _ f) (hv hs) ?_
 refine ne hs d ?_
 clear d
 obtain ⟨k,e,h⟩:=bind_some h
 refine rc 2 [2,3,5,6,7,8] hs ?_;intro K4 b
 refine Ab _ (IA w0 n _ _ _ a0.max a0.scale a1.scale _ e) (hv hs) ?_
 refine ne hs b ?_
 clear b
 refine rc 3 [4] hs ?_;intro K6 c
 refine DI _ (fun _=>C3 w0 _ _ _ j.1 a1) (hv hs) ?_
 refine nc hs ?_
 refine DI _ (fun _=>C3 w0 _ _ _ k.1 a1) (hv hs) ?_
 refine ne hs c ?_
 clear c
 exact rt h hs a g
def Eo (n:Nat) (g:ByteArray) (b:Ty) (q:Ty):Option Bool :=
 (Az n b q (Gn g)).bind fun h =>
 some (!h.2)
theorem Qr (w0:World) (n:Nat) (B:List (List AV)) (Rw:List RowA) (L:List LoopA) (a0:ByteArray) (la1:Nat) (a1:Ty) (hla1:B[la1]? = some (a1.cs)) (la2:Nat) (a2:Ty) (hla2:B[la2]? = some (a2.cs)) (r:Bool) (h:Eo n a0 a1 a2=some r) :
  ACalls Tryz.prog w0 200 [.val (.string a0),.box la1 0,.box la2 0] ⟨B,Rw,L⟩ fun x st=>x = .val (.bool r)∧st=⟨B,Rw,L⟩:=by
 rw [Eo] at h
 refine hd [.tmp 4] Tryz.func200 Tryz.ntmps200 fun M0 W0 l j g a k f hs=>?_
 simp only [Am]
 have c:=(List.getElem?_eq_some_iff.1 hla1).1
 have d:=(List.getElem?_eq_some_iff.1 hla2).1
 have hs:=And.intro (Af hla1) hs
 have hs:=And.intro (Af hla2) hs
 refine rg [0,1,2] hs ?_
 apply Aa;intro K2 b
 obtain ⟨m,e,h⟩:=bind_some h
 apply GI Gm [8,9] [6] kr (fun s=>∃ (X:List (List AV)) (rows:List RowA),s=⟨B++([]++X),rows,L⟩) 3 (B.length+0)
 ·simp +decide only [go_sem,Nat.reduceAdd]
 ·rintro s ⟨X,rows,rfl⟩
  refine ⟨3,?_⟩
  rw [Ae];simp +decide only [go_sem,Nat.reduceAdd,DV,Af hla1,Af hla2]
  (repeat' apply And.intro)<;>first | refine Ab _ (Ur w0 _ _ _ a0) (hv hs) ?_ | exact cl
  rw [Ae];simp +decide only [go_sem,Nat.reduceAdd,Af hla1,Af hla2]
  (repeat' apply And.intro)<;>first | refine Ab _ (IB w0 n _ _ _ a1 a2 (Gn a0) _ e) (hv hs) ?_ | exact cl
  rw [Ae];simp +decide only [go_sem,Nat.reduceAdd,Af hla1,Af hla2]
  (repeat' apply And.intro)<;>first | rfl | exact cl
 ·refine Good.mk [8] kr ⟨[],_,by first | rfl | (simp only [List.append_nil,List.nil_append];done) | (simp only [List.append_nil,List.nil_append];rfl)⟩ ?_ ?_
  ·intro h;exact absurd h (by decide)
  ·intro i hi;simp only [List.mem_cons,List.not_mem_nil,or_false] at hi
   subst hi
   ·apply BF rfl rfl ev
    ·simp +decide only [go_sem,Nat.reduceAdd,DK,Af hla1,Af hla2]
     (repeat' apply And.intro)<;>first | rfl | exact cl
    ·simp +decide only [go_sem,Nat.reduceAdd,Af hla1,Af hla2]
     refine Good.mk [9] kr ⟨_,_,by first | rfl | (simp only [List.append_nil,List.nil_append];done) | (simp only [List.append_nil,List.nil_append];rfl)⟩ ?_ ?_
     ·intro h;exact absurd h (by decide)
     ·intro i hi;simp only [List.mem_cons,List.not_mem_nil,or_false] at hi
      subst hi
      ·apply BF rfl rfl ev
       ·simp +decide only [go_sem,Nat.reduceAdd,DK,Af hla1,Af hla2]
        (repeat' apply And.intro)<;>first | rfl | exact cl
       ·simp +decide only [go_sem,Nat.reduceAdd,Af hla1,Af hla2]
        refine Good.mk [] kr ⟨_,_,by first | rfl | (simp only [List.append_nil,List.nil_append];done) | (simp only [List.append_nil,List.nil_append];rfl)⟩ ?_ ?_
        ·intro _;apply B2 [6];first | (simp +decide only [go_sem,Nat.reduceAdd,Af hla1,Af hla2];done) | (simp +decide only [go_sem,Nat.reduceAdd,Af hla1,Af hla2];rfl)
        ·intro i hi;cases hi
 simp +decide only [go_sem,Nat.reduceAdd,Af hla1,Af hla2]
 (repeat' apply And.intro)<;>first | refine b _ _ ?_ | exact cl
 clear b
 refine rg [4] hs ?_
 exact rt h hs a f
def CL (g:Ty) (b:Ty):Bool :=
 (decide (b.min≤g.min))&&(decide (g.max≤b.max))
theorem SU (w0:World) (B:List (List AV)) (Rw:List RowA) (L:List LoopA) (a0:Ty) (a1:Ty) (r:Bool) (h:CL a0 a1=r) :
  ACalls Tryz.prog w0 149 [.agg (a0.cs),.agg (a1.cs)] ⟨B,Rw,L⟩ fun x st=>x = .val (.bool r)∧st=⟨B,Rw,L⟩:=by
 rw [CL] at h
 refine hd [.tmp 4] Tryz.func149 Tryz.ntmps149 fun M0 W0 e d c a f b hs=>?_
 simp only [Am]
 refine rg [2,3] hs ?_
 refine rg [4] hs ?_
 exact rT h hs a b
theorem Es (w0:World) (B:List (List AV)) (Rw:List RowA) (L:List LoopA) (a0:Ty) (a1:Ty) :
  ACalls Tryz.prog w0 149 [.agg (a0.cs),.agg (a1.cs)] ⟨B,Rw,L⟩ fun x st=>x = .val (.bool (CL a0 a1))∧st=⟨B,Rw,L⟩:=SU w0 B Rw L a0 a1 _ rfl
def F2 (n:Nat)  : Option Int :=
 some ((-1))
def BL (n:Nat) (h:List ByteArray) (s:ByteArray→Option Bool):Nat→Int→Option Int
 | 0,_=>none
 | m+1,b =>
  if decide (b<(h.length:Int)) then
   (Cb h b).bind fun q =>
   (s q).bind fun g =>
   if g then
    some (b)
   else
    if BR (b+1) then
     (BL n h s m) (b+1)
    else none
  else
   F2 n 
def EB (n:Nat) (g:List ByteArray) (b:ByteArray→Option Bool):Option Int :=
 BL n g b n 0
theorem NC (w0:World) (n:Nat) (B:List (List AV)) (Rw:List RowA) (L:List LoopA) (a0:List ByteArray) (fa1:FuncId) (ca1:List AV) (a1:ByteArray→Option Bool) (ha1:∀ (x0:ByteArray) r,a1 x0=some r→∀ B' rows,B <+: B'→Rw <+: rows→ACalls Tryz.prog w0 fa1 ([.val (.string x0)]++ca1) ⟨B',rows,L⟩ fun v s=>v = .val (.bool r)∧s=⟨B',rows,L⟩) (r:Int) (h:EB n a0 a1=some r) :
  ACalls Tryz.prog w0 229 [.list (a0.map Nb) .none,.clo fa1 ca1] ⟨B,Rw,L⟩ fun x st=>x = .val (.int .i64 r)∧st=⟨B,Rw,L⟩:=by
 rw [EB] at h
 refine hd [.tmp 4] Tryz.func229 Tryz.ntmps229 fun M0 W0 D t l b F d hs=>?_
 simp only [Am]
 have a:=B6 (F (.clo fa1 ca1) (by simp))
 refine rg [0,1] hs ?_
 refine Ak (fun e st=>Ck e st B Rw L [] [] [] (F2 n  = some r)) ?_ ?_
 ·intro K4 u
  refine rg [0,1,7,8] hs ?_
  apply Ad
  refine Ap (fun m e st=>∃ (c:Int),Ck e st B Rw L [(0,true,.list (a0.map Nb) .none),(1,true,.clo fa1 ca1),(7,true,.val (.int .i64 (a0.length:Int))),(8,true,.val (.int .i64 c))] [] [] (BL n a0 a1 m c=some r)) n ⟨0,([]),Rw,ef hs,ef hs,d,h⟩ ?_
  rintro ml6 e st ⟨c,Xl6,Rl6,rfl,rfl,d,h⟩ Ul6 Vl6
  cases ml6 with
  | zero=>cases h
  | succ ml6 =>
  rw [BL] at h
  refine AH D t l rfl b d (Jm a d) (Jm a d) ?_
  refine rg [0,1,7,8,9] hs ?_
  apply Aa;intro K8 p
  refine Av h hs (fun hs h=>?_) (fun hs h=>?_)
  rotate_left
  ·refine sx [] hs u ?_
   exact ⟨([]),Rl6,ef hs,ef hs,d,h⟩
  refine sk [0,1,7,8] hs p ?_
  clear p
  apply Aa;intro K10 g
  apply Ad
  refine rg [0,1,5,7,8] hs ?_
  obtain ⟨w,o,h⟩:=bind_some h
  obtain ⟨y,z,k⟩:=Ao o
  have j:=Aq (f:=Nb) k
  obtain ⟨E,q,h⟩:=bind_some h
  have hs:=And.intro j hs
  refine rc 2 [0,1,5,7,8,16] hs ?_;intro K12 i
  refine FY _ (ha1 w _ q _ _ px d.pre) (hv hs) ?_
  refine ne hs i ?_
  clear i
  refine Av h hs (fun hs h=>?_) (fun hs h=>?_)
  ·refine rg [4] hs ?_
   exact rt h hs b d
  refine sk [0,1,7,8] hs g ?_
  clear g
  obtain ⟨C,h⟩:=Ac h
  refine rl [0,1,7,8] hs (fun e s=>Vl6 ml6 e s (Nat.lt_succ_self _)) ?_
  exact ⟨(c+1),([]),Rl6,ef hs,ef hs,d,h⟩
 ·clear h;rintro e st ⟨Xk3,Rk3,rfl,rfl,d,h⟩
  rw [F2] at h
  refine AH D t l rfl b d (Jm a d) (Jm a d) ?_
  refine rg [4] hs ?_
  exact rt h hs b d
def CJ (n:Nat) (g:List ByteArray) (b:ByteArray→Option Bool):Option Bool :=
 (EB n g b).bind fun h =>
 some (decide (0≤h))
theorem KP (w0:World) (n:Nat) (B:List (List AV)) (Rw:List RowA) (L:List LoopA) (a0:List ByteArray) (fa1:FuncId) (ca1:List AV) (a1:ByteArray→Option Bool) (ha1:∀ (x0:ByteArray) r,a1 x0=some r→∀ B' rows,B <+: B'→Rw <+: rows→ACalls Tryz.prog w0 fa1 ([.val (.string x0)]++ca1) ⟨B',rows,L⟩ fun v s=>v = .val (.bool r)∧s=⟨B',rows,L⟩) (r:Bool) (h:CJ n a0 a1=some r) :
  ACalls Tryz.prog w0 199 [.list (a0.map Nb) .none,.clo fa1 ca1] ⟨B,Rw,L⟩ fun x st=>x = .val (.bool r)∧st=⟨B,Rw,L⟩:=by
 rw [CJ] at h
 refine hd [.tmp 4] Tryz.func199 Tryz.ntmps199 fun M0 W0 p o k b m g hs=>?_
 simp only [Am]
 have d:=B6 (m (.clo fa1 ca1) (by simp))
 refine rg [0,1] hs ?_
 obtain ⟨q,f,h⟩:=bind_some h
 refine rc 2 [4] hs ?_;intro K2 c
 refine Ab _ (NC w0 n _ _ _ a0 fa1 ca1 a1 (fun x0 r l e a i j=>ha1 x0 r l e a (List.IsPrefix.trans px i) (g.pre.trans j)) _ f) (hv hs) ?_
 refine ne hs c ?_
 clear c
 exact rt h hs b g
def GQ (n:Nat) (b:Ty) (g:Ty):Option Bool :=
 if decide (0<(b.words.length:Int)) then
  (CJ n b.words (fun (s:ByteArray)=>Eo n s b g)).bind fun q =>
  some (!q)
 else
  if decide (0<(g.words.length:Int)) then
   if decide (b.max=0) then
    (Bm n g.words ((⟨#[]⟩:ByteArray))).bind fun h =>
    some (h)
   else
    some (false)
  else
   some (CL b g)
theorem SO (w0:World) (n:Nat) (B:List (List AV)) (Rw:List RowA) (L:List LoopA) (a0:Ty) (a1:Ty) (r:Bool) (h:GQ n a0 a1=some r) :
  ACalls Tryz.prog w0 148 [.agg (a0.cs),.agg (a1.cs)] ⟨B,Rw,L⟩ fun x st=>x = .val (.bool r)∧st=⟨B,Rw,L⟩:=by
 rw [GQ] at h
 refine hd [.tmp 4] Tryz.func148 Tryz.ntmps148 fun M0 W0 u s m a v i hs=>?_
 simp only [Am]
 refine rg [2,3] hs ?_
 apply Aa;intro K2 e
 apply Ad
 refine rg [2,3,5] hs ?_
 refine Av h hs (fun hs h=>?_) (fun hs h=>?_)
 ·obtain ⟨w,j,h⟩:=bind_some h
  refine rc 2 [4] hs ?_;intro K5 f
  refine Ab _ (KP w0 n _ _ _ a0.words 200 [.box B.length 0,.box (B.length+1) 0] (fun (k:ByteArray)=>Eo n k a0 a1) (fun k r p t l g o=>by exact Qr w0 n _ _ _ k _ a0 (Ea g (ef hs)) _ a1 (Ea g (ef hs)) _ p) _ j) (hv hs) ?_
  refine ne hs f ?_
  clear f
  exact rt h hs a i
 refine rg [2,3,15] hs ?_
 refine Av h hs (fun hs h=>?_) (fun hs h=>?_)
 ·apply Aa;intro K9 b
  rcases Bool.eq_false_or_eq_true (decide (a0.max=0)) with hf10 | hf10
  ·replace h:=AO h hf10
   obtain ⟨q,d,h⟩:=bind_some h
   have hs:=And.intro hf10 hs
   refine rk 2 [4] hs ?_
   refine Ab _ (EH w0 n _ _ _ a1.words ((⟨#[]⟩:ByteArray)) _ d) (hv hs) ?_
   refine ne hs b ?_
   clear b
   exact rt h hs a i
  ·replace h:=AN h hf10
   have hs:=And.intro hf10 hs
   refine rk 2 [4] hs ?_
   refine As ?_
   refine ne hs b ?_
   clear b
   exact rt h hs a i
 refine sk [2,3] hs e ?_
 clear e
 refine rc 2 [4] hs ?_;intro K12 c
 refine Ab _ (Es w0 _ _ _ a0 a1) (hv hs) ?_
 refine ne hs c ?_
 clear c
 exact rt h hs a i
def Bn (rec:Ty→Ty→Option Bool) (n:Nat) (h:Ty) (b:Ty) (g:Bool):Option Bool :=
 if g then
  (Fq n h b).bind fun y15 =>
  some (y15)
 else
  if decide (b.kind=1) then
   some (true)
  else
   if decide (b.kind=4) then
    (GQ n h b).bind fun y =>
    some (y)
   else
    if decide (b.kind=8) then
     if CL h b then
      if decide (h.max=0) then
       some (true)
      else
       (Cb h.elem 0).bind fun x28 =>
       (Cb b.elem 0).bind fun x29 =>
       (rec x28 x29).bind fun y30 =>
       some (y30)
     else
      some (false)
    else
     if decide (b.kind=9) then
      (AA n b.fields (fun (x0:Int × ByteArray × Int × Ty × List Vl)=>CG rec n x0 h)).bind fun s =>
      some (!s)
     else
      if decide (b.kind=10) then
       (AA n h.fields (fun (x0:Int × ByteArray × Int × Ty × List Vl)=>CE rec n x0 b)).bind fun q =>
       some (!q)
      else
       some (CL h b)
def Fa (rec:Ty→Ty→Option Bool) (n:Nat) (g:Ty) (b:Ty):Option Bool :=
 if !(Di g.kind b.kind) then
  some (false)
 else
  if decide (b.kind=2) then
   Bn rec n g b true
  else
   Bn rec n g b (decide (b.kind=3))
def AD:Nat→Ty→Ty→Option Bool
 | 0,_,_=>none
 | n+1,g,b=>Fa (AD n) n g b
def HA (w0:World) (F:Ty→Ty→Option Bool):Prop:=∀ (B:List (List AV)) (Rw:List RowA) (L:List LoopA) (g:Ty) (b:Ty) (r:Bool),F g b=some r→ACalls Tryz.prog w0 90 [.agg (g.cs),.agg (b.cs)] ⟨B,Rw,L⟩ fun x st=>x = .val (.bool r)∧st=⟨B,Rw,L⟩
theorem ND (w0:World) (rec:Ty→Ty→Option Bool) (ih:HA w0 rec) (n:Nat):HA w0 (Fa rec n):=by
 intro B Rw L a0 a1 r h
 rw [Fa] at h
 refine hd [.tmp 4] Tryz.func90 Tryz.ntmps90 fun M0 W0 hN V F a hu d hs=>?_
 simp only [Am]
 refine rg [2,3] hs ?_
 apply Aa;intro K2 C
 refine rc 2 [2,3,10] hs ?_;intro K3 x
 refine Ab _ (JI w0 _ _ _ a0.kind a1.kind) (hv hs) ?_
 refine ne hs x ?_
 clear x
 refine Av h hs (fun hs h=>?_) (fun hs h=>?_)
 ·refine rg [4] hs ?_
  exact rt h hs a d
 refine sk [2,3] hs C ?_
 clear C
 apply Aa;intro K6 D
 refine rg [2,3,12] hs ?_
 apply Ad
 refine Ak (fun e st=>∃ (c:Bool),Ck e st B Rw L [(2,true,.box B.length 0),(3,true,.box (B.length+1) 0),(12,true,.val (.int .i64 a1.kind)),(13,true,.val (.bool c))] [a0.cs,a1.cs] [] (Bn rec n a0 a1 c=some r)) ?_ ?_
 ·intro K10 j
  refine rg [2,3,12,13] hs ?_
  refine Av h hs (fun hs h=>?_) (fun hs h=>?_)
  ·refine sk [2,3,12,13] hs j ?_
   exact ⟨true,([]),Rw,ef hs,ef hs,d,h⟩
  refine rl [2,3,12,13] hs j ?_
  exact ⟨(decide (a1.kind=3)),([]),Rw,ef hs,ef hs,d,h⟩
 ·clear h;rintro e st ⟨c,Xk9,Rk9,rfl,rfl,d,h⟩
  rw [Bn] at h
  refine td hN V F a d ?_
  refine Av h hs (fun hs h=>?_) (fun hs h=>?_)
  ·obtain ⟨aa,E,h⟩:=bind_some h
   refine rc 2 [4] hs ?_;intro K14 l
   refine Ab _ (QV w0 n _ _ _ a0 a1 _ E) (hv hs) ?_
   refine ne hs l ?_
   clear l
   exact rt h hs a d
  refine rg [2,3,12,19] hs ?_
  refine Av h hs (fun hs h=>?_) (fun hs h=>?_)
  ·refine rg [4] hs ?_
   exact rt h hs a d
  refine rg [2,3,12,21] hs ?_
  refine Av h hs (fun hs h=>?_) (fun hs h=>?_)
  ·obtain ⟨ae,z,h⟩:=bind_some h
   refine rc 2 [4] hs ?_;intro K21 i
   refine Ab _ (SO w0 n _ _ _ a0 a1 _ z) (hv hs) ?_
   refine ne hs i ?_
   clear i
   exact rt h hs a d
  refine rg [2,3,12,26] hs ?_
  refine Av h hs (fun hs h=>?_) (fun hs h=>?_)
  ·apply Aa;intro K25 b
   rcases Bool.eq_false_or_eq_true (CL a0 a1) with hf26 | hf26
   ·replace h:=AO h hf26
    rcases Bool.eq_false_or_eq_true (decide (a0.max=0)) with hf27 | hf27
    ·replace h:=AO h hf27
     have hs:=And.intro hf26 hs
     have hs:=And.intro hf27 hs
     refine dk 20 3 1 [4] hs Gm ?_
     refine Ab _ (Es w0 _ _ _ a0 a1) (hv hs) ?_
     refine nc hs ?_
     refine As ?_
     refine dn hs b ?_
     clear b
     exact rt h hs a d
    ·replace h:=AN h hf27
     obtain ⟨Q,N,U,f,h⟩:=ix HK h
     have u:(a0.elem.map HK).getD 0 .junk=_:=f
     obtain ⟨K,O,J,g,h⟩:=ix HK h
     have p:(a1.elem.map HK).getD 0 .junk=_:=g
     obtain ⟨ab,y,h⟩:=bind_some h
     have hs:=And.intro hf26 hs
     have hs:=And.intro hf27 hs
     have hs:=And.intro f hs
     have hs:=And.intro u hs
     have hs:=And.intro g hs
     have hs:=And.intro p hs
     refine dk 20 3 1 [4] hs Gm ?_
     refine Ab _ (Es w0 _ _ _ a0 a1) (hv hs) ?_
     refine nc hs ?_
     refine Ab _ (ih _ _ _ Q K _ y) (hv hs) ?_
     refine dn hs b ?_
     clear b
     exact rt h hs a d
   ·replace h:=AN h hf26
    have hs:=And.intro hf26 hs
    refine dk 20 3 1 [4] hs Gm ?_
    refine Ab _ (Es w0 _ _ _ a0 a1) (hv hs) ?_
    refine nc hs ?_
    refine As ?_
    refine dn hs b ?_
    clear b
    exact rt h hs a d
  refine rg [2,3,12,47] hs ?_
  refine Av h hs (fun hs h=>?_) (fun hs h=>?_)
  ·obtain ⟨ad,v,h⟩:=bind_some h
   refine rc 2 [4] hs ?_;intro K33 o
   refine Ab _ (CQ w0 n _ _ _ a1.fields 151 [.box B.length 0] (fun (q:Int × ByteArray × Int × Ty × List Vl)=>CG rec n q a0) (fun q r H Z s t G=>by exact M4 w0 rec ih n _ _ _ q _ a0 (Ea t (ef hs)) _ H) _ v) (hv hs) ?_
   refine ne hs o ?_
   clear o
   exact rt h hs a d
  refine rg [2,3,54] hs ?_
  refine Av h hs (fun hs h=>?_) (fun hs h=>?_)
  ·obtain ⟨Y,w,h⟩:=bind_some h
   refine rc 2 [4] hs ?_;intro K37 m
   refine Ab _ (CQ w0 n _ _ _ a0.fields 153 [.box (B.length+1) 0] (fun (q:Int × ByteArray × Int × Ty × List Vl)=>CE rec n q a1) (fun q r H Z s t G=>by exact Nl w0 rec ih n _ _ _ q _ a1 (Ea t (ef hs)) _ H) _ w) (hv hs) ?_
   refine ne hs m ?_
   clear m
   exact rt h hs a d
  refine sk [2,3] hs D ?_
  clear D
  refine rc 2 [4] hs ?_;intro K39 k
  refine Ab _ (Es w0 _ _ _ a0 a1) (hv hs) ?_
  refine ne hs k ?_
  clear k
  exact rt h hs a d
theorem He (w0:World):∀ n:Nat,HA w0 (AD n)
 | 0=>fun _ _ _ _ _ _ h=>(nomatch h)
 | n+1=>ND w0 (AD n) (He w0 n) n
def FU (g:Ty) (b:Ty):Bool :=
 (decide (b.min≤g.min))&&(decide (g.max≤b.max))
theorem XM (w0:World) (B:List (List AV)) (Rw:List RowA) (L:List LoopA) (a0:Ty) (a1:Ty) (r:Bool) (h:FU a0 a1=r) :
  ACalls Tryz.prog w0 91 [.agg (a0.cs),.agg (a1.cs)] ⟨B,Rw,L⟩ fun x st=>x = .val (.bool r)∧st=⟨B,Rw,L⟩:=by
 rw [FU] at h
 refine hd [.tmp 4] Tryz.func91 Tryz.ntmps91 fun M0 W0 e d c a f b hs=>?_
 simp only [Am]
 refine rg [2,3] hs ?_
 refine rg [4] hs ?_
 exact rT h hs a b
theorem HC (w0:World) (B:List (List AV)) (Rw:List RowA) (L:List LoopA) (a0:Ty) (a1:Ty) :
  ACalls Tryz.prog w0 91 [.agg (a0.cs),.agg (a1.cs)] ⟨B,Rw,L⟩ fun x st=>x = .val (.bool (FU a0 a1))∧st=⟨B,Rw,L⟩:=XM w0 B Rw L a0 a1 _ rfl
def Ks (rec:Ty→Ty→Option Bool) (n:Nat) (g:Ty) (b:Ty):Option Bool :=
 if decide (0<(g.words.length:Int)) then
  some (true)
 else
  if decide (0<(b.words.length:Int)) then
   if decide (g.max=0) then
    (J7 n ((⟨#[]⟩:ByteArray)) b).bind fun h =>
    some (h)
   else
    some (false)
  else
   some (FU g b)
def PC (rec:Ty→Ty→Option Bool) (n:Nat)  : Option Bool :=
 some (true)
def PG (rec:Ty→Ty→Option Bool) (n:Nat)  : Option Bool :=
 some (true)
def PU (rec:Ty→Ty→Option Bool) (n:Nat) (g:Ty) (b:Ty):Option Bool :=
 some (FU g b)
def F7 (rec:Ty→Ty→Option Bool) (n:Nat) (g:Ty) (s:Ty):Nat→Int→Option Bool
 | 0,_=>none
 | m+1,b =>
  if decide (b<(g.words.length:Int)) then
   (Cb g.words b).bind fun h =>
   (J7 n h s).bind fun q =>
   if !q then
    some (false)
   else
    if BR (b+1) then
     (F7 rec n g s m) (b+1)
    else none
  else
   Ks rec n g s 
def G6 (rec:Ty→Ty→Option Bool) (n:Nat) (q:Ty) (y:Ty):Nat→Int→Option Bool
 | 0,_=>none
 | m+1,b =>
  if decide (b<(q.fields.length:Int)) then
   (Cb q.fields b).bind fun g =>
   (E2 n y g.1).bind fun h =>
   if !h.2 then
    some (false)
   else
    (rec g.2.2.2.1 h.1.2.2.2.1).bind fun s =>
    if !s then
     some (false)
    else
     if BR (b+1) then
      (G6 rec n q y m) (b+1)
     else none
  else
   PC rec n 
def EZ (rec:Ty→Ty→Option Bool) (n:Nat) (y:Ty) (s:Ty):Nat→Int→Option Bool
 | 0,_=>none
 | m+1,b =>
  if decide (b<(s.fields.length:Int)) then
   (Cb s.fields b).bind fun h =>
   (E2 n y h.1).bind fun g =>
   if (!g.2)&&(decide (h.2.2.1=1)) then
    some (false)
   else
    if g.2 then
     (rec g.1.2.2.2.1 h.2.2.2.1).bind fun q =>
     if (!q)||((decide (h.2.2.1=1))&&(decide (g.1.2.2.1=2))) then
      some (false)
     else
      if BR (b+1) then
       (EZ rec n y s m) (b+1)
      else none
    else
     if BR (b+1) then
      (EZ rec n y s m) (b+1)
     else none
  else
   PG rec n 
def QR (rec:Ty→Ty→Option Bool) (n:Nat) (g:Ty) (b:Ty):Option Bool :=
 if (decide (0≤(Aw g)))&&(decide (0≤(Aw b))) then
  if BR ((Aw b)-(Aw g)) then
   (EY n g.min ((Aw b)-(Aw g))).bind fun y7 =>
   if BR ((Aw b)-(Aw g)) then
    (EY n g.max ((Aw b)-(Aw g))).bind fun h =>
    if (decide ((Aw b)<(Aw g)))&&(!(decide (g.min=g.max))) then
     some (false)
    else
     some (((y7.2&&h.2)&&(AU y7.1 b))&&(AU h.1 b))
   else none
  else none
 else
  if !(decide (g.kind=b.kind)) then
   some (false)
  else
   if decide (b.kind=1) then
    some (true)
   else
    if decide (b.kind=4) then
     F7 rec n g b n 0
    else
     if decide (b.kind=8) then
      if FU g b then
       if decide (g.max=0) then
        some (true)
       else
        (Cb g.elem 0).bind fun y =>
        (Cb b.elem 0).bind fun q =>
        (rec y q).bind fun s =>
        some (s)
      else
       some (false)
     else
      if decide (b.kind=10) then
       G6 rec n g b n 0
      else
       if decide (b.kind=9) then
        EZ rec n g b n 0
       else
        PU rec n g b 
def Gp:Nat→Ty→Ty→Option Bool
 | 0,_,_=>none
 | n+1,g,b=>QR (Gp n) n g b
def UD (w0:World) (F:Ty→Ty→Option Bool):Prop:=∀ (B:List (List AV)) (Rw:List RowA) (L:List LoopA) (g:Ty) (b:Ty) (r:Bool),F g b=some r→ACalls Tryz.prog w0 38 [.agg (g.cs),.agg (b.cs)] ⟨B,Rw,L⟩ fun x st=>x = .val (.bool r)∧st=⟨B,Rw,L⟩
theorem X4 (w0:World) (rec:Ty→Ty→Option Bool) (ih:UD w0 rec) (n:Nat):UD w0 (QR rec n):=by
 intro B Rw L a0 a1 r h
 rw [QR] at h
 refine hd [.tmp 4] Tryz.func38 Tryz.ntmps38 fun M0 W0 hN z C a hu c hs=>?_
 simp only [Am]
 refine rg [2,3] hs ?_
 apply Aa;intro K2 a6
 have a3:=And.intro and_self @imp_self
 have hs:=And.intro a3 hs
 refine rc 3 [2,3,24] hs ?_;intro K3 a5
 refine Ab _ (B9 w0 _ _ _ a0) (hv hs) ?_
 refine nc hs ?_
 refine DI _ (fun _=>B9 w0 _ _ _ a1) (hv hs) ?_
 refine ne hs a5 ?_
 clear a5
 refine Av h hs (fun hs h=>?_) (fun hs h=>?_)
 ·have x:=hs.1
  obtain ⟨b5,h⟩:=Ac h
  obtain ⟨y7,bp,h⟩:=bind_some h
  apply Aa;intro K5 az
  refine dk 13 4 1 [2,3,5,6] hs Gm ?_
  refine Ab _ (B9 w0 _ _ _ a1) (hv hs) ?_
  refine nc hs ?_
  refine Ab _ (B9 w0 _ _ _ a0) (hv hs) ?_
  refine nc hs ?_
  refine Ab _ (NT w0 n _ _ _ a0.min ((Aw a1)-(Aw a0)) _ bp) (hv hs) ?_
  refine dn hs az ?_
  clear az
  obtain ⟨b3,h⟩:=Ac h
  obtain ⟨bv,a9,h⟩:=bind_some h
  apply Aa;intro K8 ba
  refine dk 13 4 1 [2,3,5,6,7,8] hs Gm ?_
  refine Ab _ (B9 w0 _ _ _ a1) (hv hs) ?_
  refine nc hs ?_
  refine Ab _ (B9 w0 _ _ _ a0) (hv hs) ?_
  refine nc hs ?_
  refine Ab _ (NT w0 n _ _ _ a0.max ((Aw a1)-(Aw a0)) _ a9) (hv hs) ?_
  refine dn hs ba ?_
  clear ba
  apply Aa;intro K11 N
  apply Aa;intro K12 ag
  refine dk 12 3 1 [3,5,6,7,8,58] hs Gm ?_
  refine Ab _ (B9 w0 _ _ _ a1) (hv hs) ?_
  refine nc hs ?_
  refine Ab _ (B9 w0 _ _ _ a0) (hv hs) ?_
  refine dn hs ag ?_
  clear ag
  refine Av h hs (fun hs h=>?_) (fun hs h=>?_)
  ·refine rg [4] hs ?_
   exact rt h hs a c
  refine sk [3,5,6,7,8] hs N ?_
  clear N
  have a3:=And.intro and_self @imp_self
  refine rc 3 [4] hs ?_;intro K15 ae
  refine DI _ (fun _=>E4 w0 _ _ _ y7.1 a1) (hv hs) ?_
  refine nc hs ?_
  refine DI _ (fun _=>E4 w0 _ _ _ bv.1 a1) (hv hs) ?_
  refine ne hs ae ?_
  clear ae
  exact rt h hs a c
 have x:=hs.1
 refine sk [2,3] hs a6 ?_
 clear a6
 apply Aa;intro K16 af
 refine rg [2,3,77] hs ?_
 refine Av h hs (fun hs h=>?_) (fun hs h=>?_)
 ·have k:=hs.1
  refine rg [4] hs ?_
  exact rt h hs a c
 have k:=hs.1
 refine sk [2,3] hs af ?_
 clear af
 refine Ak (fun e st=>Ck e st B Rw L [(2,true,.box B.length 0),(3,true,.box (B.length+1) 0)] [a0.cs,a1.cs] [] (PU rec n a0 a1  = some r)) ?_ ?_
 ·intro K22 bb
  refine rg [2,3,79] hs ?_
  apply Ad
  refine rg [2,3,79,80] hs ?_
  refine Av h hs (fun hs h=>?_) (fun hs h=>?_)
  ·have o:=hs.1
   refine rg [4] hs ?_
   exact rt h hs a c
  have o:=hs.1
  refine rg [2,3,79,82] hs ?_
  refine Av h hs (fun hs h=>?_) (fun hs h=>?_)
  ·have l:=hs.1
   refine Ak (fun e st=>Ck e st B Rw L [(2,true,.box B.length 0),(3,true,.box (B.length+1) 0)] [a0.cs,a1.cs] [] (Ks rec n a0 a1  = some r)) ?_ ?_
   ·intro K31 be
    refine rg [2,3,9] hs ?_
    apply Ad
    refine Ap (fun m e st=>∃ (w:Int),Ck e st B Rw L [(2,true,.box B.length 0),(3,true,.box (B.length+1) 0),(9,true,.val (.int .i64 w))] [a0.cs,a1.cs] [] (F7 rec n a0 a1 m w=some r)) n ⟨0,([]),Rw,ef hs,ef hs,c,h⟩ ?_
    rintro ml33 e st ⟨w,Xl33,Rl33,rfl,rfl,c,h⟩ Ul33 Vl33
    cases ml33 with
    | zero=>cases h
    | succ ml33 =>
    rw [F7] at h
    refine td hN z C a c ?_
    apply Aa;intro K34 Y
    refine rg [2,3,9,88] hs ?_
    refine Av h hs (fun hs h=>?_) (fun hs h=>?_)
    rotate_left
    ·refine sx [2,3] hs be ?_
     exact ⟨([]),Rl33,ef hs,ef hs,c,h⟩
    refine sk [2,3,9] hs Y ?_
    clear Y
    apply Aa;intro K37 ai
    apply Ad
    obtain ⟨bt,a7,h⟩:=bind_some h
    obtain ⟨bi,bh,ap⟩:=Ao a7
    have ar:=Aq (f:=Nb) ap
    obtain ⟨b2,bc,h⟩:=bind_some h
    have hs:=And.intro ar hs
    apply Aa;intro K38 Z
    refine dk 8 2 1 [2,3,9,98] hs Gm ?_
    refine Ab _ (PX w0 n _ _ _ bt a1 _ bc) (hv hs) ?_
    refine dn hs Z ?_
    clear Z
    refine Av h hs (fun hs h=>?_) (fun hs h=>?_)
    ·refine rg [4] hs ?_
     exact rt h hs a c
    refine sk [2,3,9] hs ai ?_
    clear ai
    obtain ⟨bx,h⟩:=Ac h
    refine rl [2,3,9] hs (fun e s=>Vl33 ml33 e s (Nat.lt_succ_self _)) ?_
    exact ⟨(w+1),([]),Rl33,ef hs,ef hs,c,h⟩
   ·clear h;rintro e st ⟨Xk30,Rk30,rfl,rfl,c,h⟩
    rw [Ks] at h
    refine td hN z C a c ?_
    apply Aa;intro K44 aa
    refine rg [2,3,102] hs ?_
    refine Av h hs (fun hs h=>?_) (fun hs h=>?_)
    ·refine rg [4] hs ?_
     exact rt h hs a c
    refine sk [2,3] hs aa ?_
    clear aa
    apply Aa;intro K48 U
    refine rg [2,3,106] hs ?_
    refine Av h hs (fun hs h=>?_) (fun hs h=>?_)
    ·apply Aa;intro K51 F
     rcases Bool.eq_false_or_eq_true (decide (a0.max=0)) with hf52 | hf52
     ·replace h:=AO h hf52
      obtain ⟨b1,aw,h⟩:=bind_some h
      have hs:=And.intro hf52 hs
      refine rk 2 [4] hs ?_
      refine Ab _ (PX w0 n _ _ _ ((⟨#[]⟩:ByteArray)) a1 _ aw) (hv hs) ?_
      refine ne hs F ?_
      clear F
      exact rt h hs a c
     ·replace h:=AN h hf52
      have hs:=And.intro hf52 hs
      refine rk 2 [4] hs ?_
      refine Ii ?_
      refine ne hs F ?_
      clear F
      exact rt h hs a c
    refine sk [2,3] hs U ?_
    clear U
    refine rc 2 [4] hs ?_;intro K54 ad
    refine Ab _ (HC w0 _ _ _ a0 a1) (hv hs) ?_
    refine ne hs ad ?_
    clear ad
    exact rt h hs a c
  have l:=hs.1
  refine rg [2,3,79,117] hs ?_
  refine Av h hs (fun hs h=>?_) (fun hs h=>?_)
  ·have p:=hs.1
   apply Aa;intro K57 y
   rcases Bool.eq_false_or_eq_true (FU a0 a1) with hf58 | hf58
   ·replace h:=AO h hf58
    rcases Bool.eq_false_or_eq_true (decide (a0.max=0)) with hf59 | hf59
    ·replace h:=AO h hf59
     have hs:=And.intro hf58 hs
     have hs:=And.intro hf59 hs
     refine dk 20 3 1 [4] hs Gm ?_
     refine Ab _ (HC w0 _ _ _ a0 a1) (hv hs) ?_
     refine nc hs ?_
     refine Ii ?_
     refine dn hs y ?_
     clear y
     exact rt h hs a c
    ·replace h:=AN h hf59
     obtain ⟨bw,bj,bl,J,h⟩:=ix HK h
     have ak:(a0.elem.map HK).getD 0 .junk=_:=J
     obtain ⟨bk,bn,bo,K,h⟩:=ix HK h
     have av:(a1.elem.map HK).getD 0 .junk=_:=K
     obtain ⟨b4,a4,h⟩:=bind_some h
     have hs:=And.intro hf58 hs
     have hs:=And.intro hf59 hs
     have hs:=And.intro J hs
     have hs:=And.intro ak hs
     have hs:=And.intro K hs
     have hs:=And.intro av hs
     refine dk 20 3 1 [4] hs Gm ?_
     refine Ab _ (HC w0 _ _ _ a0 a1) (hv hs) ?_
     refine nc hs ?_
     refine Ab _ (ih _ _ _ bw bk _ a4) (hv hs) ?_
     refine dn hs y ?_
     clear y
     exact rt h hs a c
   ·replace h:=AN h hf58
    have hs:=And.intro hf58 hs
    refine dk 20 3 1 [4] hs Gm ?_
    refine Ab _ (HC w0 _ _ _ a0 a1) (hv hs) ?_
    refine nc hs ?_
    refine Ii ?_
    refine dn hs y ?_
    clear y
    exact rt h hs a c
  have p:=hs.1
  refine rg [2,3,79,138] hs ?_
  refine Av h hs (fun hs h=>?_) (fun hs h=>?_)
  ·have j:=hs.1
   refine Ak (fun e st=>Ck e st B Rw L [] [a0.cs,a1.cs] [] (PC rec n  = some r)) ?_ ?_
   ·intro K67 ay
    refine rg [2,3,10] hs ?_
    apply Ad
    refine Ap (fun m e st=>∃ (t:Int),Ck e st B Rw L [(2,true,.box B.length 0),(3,true,.box (B.length+1) 0),(10,true,.val (.int .i64 t))] [a0.cs,a1.cs] [] (G6 rec n a0 a1 m t=some r)) n ⟨0,([]),Rw,ef hs,ef hs,c,h⟩ ?_
    rintro ml69 e st ⟨t,Xl69,Rl69,rfl,rfl,c,h⟩ Ul69 Vl69
    cases ml69 with
    | zero=>cases h
    | succ ml69 =>
    rw [G6] at h
    refine td hN z C a c ?_
    apply Aa;intro K70 V
    refine rg [2,3,10,144] hs ?_
    refine Av h hs (fun hs h=>?_) (fun hs h=>?_)
    rotate_left
    ·have q:=hs.1
     refine sx [] hs ay ?_
     exact ⟨([]),Rl69,ef hs,ef hs,c,h⟩
    have q:=hs.1
    refine sk [2,3,10] hs V ?_
    clear V
    apply Aa;intro K73 ab
    apply Ad
    apply Aa;intro K74 ah
    obtain ⟨bd,bu,bq,b,h⟩:=ix Cd h
    obtain ⟨D,ax,h⟩:=bind_some h
    apply GI Gm [11,12] [2,3,10,11,12] kr (fun s=>∃ (X:List (List AV)) (rows:List RowA),s=⟨B++([a0.cs,a1.cs]++X),rows,L⟩) 3 (B.length+2)
    ·simp +decide only [go_sem,Nat.reduceAdd]
    ·rintro s ⟨X,rows,rfl⟩
     refine ⟨2,?_⟩
     rw [Ae];simp +decide only [go_sem,Nat.reduceAdd,DV,x,k,o,l,p,j,q,b]
     have hs:=And.intro b hs
     (repeat' apply And.intro)<;>first | refine Ab _ (ID w0 n _ _ _ a1 bd.1 _ ax) (hv hs) ?_ | exact cl
     rw [Ae];simp +decide only [go_sem,Nat.reduceAdd,x,k,o,l,p,j,q,b]
     (repeat' apply And.intro)<;>first | rfl | exact cl
    ·refine Good.mk [11] kr ⟨[],_,by first | rfl | simp only [List.append_nil,List.nil_append]⟩ ?_ ?_
     ·intro h;exact absurd h (by decide)
     ·intro i hi;simp only [List.mem_cons,List.not_mem_nil,or_false] at hi
      subst hi
      ·apply BF rfl rfl ev
       ·simp +decide only [go_sem,Nat.reduceAdd,DK,x,k,o,l,p,j,q,b]
        (repeat' apply And.intro)<;>first | rfl | exact cl
       ·simp +decide only [go_sem,Nat.reduceAdd,x,k,o,l,p,j,q,b]
        refine Good.mk [12] kr ⟨_,_,by first | rfl | simp only [List.append_nil,List.nil_append]⟩ ?_ ?_
        ·intro h;exact absurd h (by decide)
        ·intro i hi;simp only [List.mem_cons,List.not_mem_nil,or_false] at hi
         subst hi
         ·apply BF rfl rfl ev
          ·simp +decide only [go_sem,Nat.reduceAdd,DK,x,k,o,l,p,j,q,b]
           (repeat' apply And.intro)<;>first | rfl | exact cl
          ·simp +decide only [go_sem,Nat.reduceAdd,x,k,o,l,p,j,q,b]
           refine Good.mk [] kr ⟨_,_,by first | rfl | simp only [List.append_nil,List.nil_append]⟩ ?_ ?_
           ·intro _;apply B2 [2,3,10,11,12];first | (simp +decide only [go_sem,Nat.reduceAdd,x,k,o,l,p,j,q,b];done) | (simp +decide only [go_sem,Nat.reduceAdd,x,k,o,l,p,j,q,b];rfl)
           ·intro i hi;cases hi
    simp +decide only [go_sem,Nat.reduceAdd,x,k,o,l,p,j,q,b]
    (repeat' apply And.intro)<;>first | refine ah _ _ ?_ | exact cl
    clear ah
    apply Aa;intro K77 G
    rcases Bool.eq_false_or_eq_true (!D.2) with hf78 | hf78
    ·replace h:=AO h hf78
     have hs:=And.intro b hs
     have hs:=And.intro hf78 hs
     refine dk 14 2 1 [2,3,10,171] hs Gm ?_
     refine Ii ?_
     refine dn hs G ?_
     clear G
     refine AP true ev (ef hs) (fun hb79=>?_) (fun hb79=>by cases hb79)
     refine rg [4] hs ?_
     exact rt h hs a c
    ·replace h:=AN h hf78
     obtain ⟨b6,a2,h⟩:=bind_some h
     have hs:=And.intro b hs
     have hs:=And.intro hf78 hs
     refine dk 14 2 1 [2,3,10,171] hs Gm ?_
     refine Ab _ (ih _ _ _ bd.2.2.2.1 D.1.2.2.2.1 _ a2) (hv hs) ?_
     refine dn hs G ?_
     clear G
     refine Av h hs (fun hs h=>?_) (fun hs h=>?_)
     ·refine rg [4] hs ?_
      exact rt h hs a c
     refine sk [2,3,10] hs ab ?_
     clear ab
     obtain ⟨bz,h⟩:=Ac h
     refine rl [2,3,10] hs (fun e s=>Vl69 ml69 e s (Nat.lt_succ_self _)) ?_
     exact ⟨(t+1),([.val (.int .i64 D.1.1)::(.val (.string D.1.2.1)::(.val (.int .i64 D.1.2.2.1)::((D.1.2.2.2.1.cs)++([.list (D.1.2.2.2.2.map A1) .none]))))]),Rl69,ef hs,ef hs,c,h⟩
   ·clear h;rintro e st ⟨Xk66,Rk66,rfl,rfl,c,h⟩
    rw [PC] at h
    refine td hN z C a c ?_
    refine rg [4] hs ?_
    exact rt h hs a c
  have j:=hs.1
  refine rg [2,3,172] hs ?_
  refine Av h hs (fun hs h=>?_) (fun hs h=>?_)
  ·refine Ak (fun e st=>Ck e st B Rw L [] [a0.cs,a1.cs] [] (PG rec n  = some r)) ?_ ?_
   ·intro K90 bf
    refine rg [2,3,13] hs ?_
    apply Ad
    refine Ap (fun m e st=>∃ (g:Int),Ck e st B Rw L [(2,true,.box B.length 0),(3,true,.box (B.length+1) 0),(13,true,.val (.int .i64 g))] [a0.cs,a1.cs] [] (EZ rec n a0 a1 m g=some r)) n ⟨0,([]),Rw,ef hs,ef hs,c,h⟩ ?_
    rintro ml92 e st ⟨g,Xl92,Rl92,rfl,rfl,c,h⟩ Ul92 Vl92
    cases ml92 with
    | zero=>cases h
    | succ ml92 =>
    rw [EZ] at h
    refine td hN z C a c ?_
    apply Aa;intro K93 Q
    refine rg [2,3,13,178] hs ?_
    refine Av h hs (fun hs h=>?_) (fun hs h=>?_)
    rotate_left
    ·refine sx [] hs bf ?_
     exact ⟨([]),Rl92,ef hs,ef hs,c,h⟩
    refine sk [2,3,13] hs Q ?_
    clear Q
    apply Aa;intro K96 E
    apply Ad
    obtain ⟨u,a8,h⟩:=bind_some h
    obtain ⟨bm,bg,am⟩:=Ao a8
    have aj:=Aq (f:=Cd) am
    have hs:=And.intro aj hs
    refine rg [2,3,13,14] hs ?_
    obtain ⟨d,aq,h⟩:=bind_some h
    refine rc 2 [2,3,13,14,15,16] hs ?_;intro K99 O
    refine Ab _ (ID w0 n _ _ _ a0 u.1 _ aq) (hv hs) ?_
    refine ne hs O ?_
    clear O
    apply Aa;intro K101 v
    rcases Bool.eq_false_or_eq_true ((!d.2)&&(decide (u.2.2.1=1))) with hf102 | hf102
    ·replace h:=AO h hf102
     have hs:=And.intro hf102 hs
     refine rk 2 [2,3,13,220] hs ?_
     refine Ii ?_
     refine ne hs v ?_
     clear v
     refine AP true ev (ef hs) (fun hb103=>?_) (fun hb103=>by cases hb103)
     refine rg [4] hs ?_
     exact rt h hs a c
    ·replace h:=AN h hf102
     rcases Bool.eq_false_or_eq_true (d.2) with hf105 | hf105
     ·replace h:=AO h hf105
      obtain ⟨b0,au,h⟩:=bind_some h
      have hs:=And.intro hf102 hs
      have hs:=And.intro hf105 hs
      refine rk 2 [2,3,13,220] hs ?_
      refine Ab _ (ih _ _ _ d.1.2.2.2.1 u.2.2.2.1 _ au) (hv hs) ?_
      refine ne hs v ?_
      clear v
      refine Av h hs (fun hs h=>?_) (fun hs h=>?_)
      ·refine rg [4] hs ?_
       exact rt h hs a c
      refine sk [2,3,13] hs E ?_
      clear E
      obtain ⟨br,h⟩:=Ac h
      refine rl [2,3,13] hs (fun e s=>Vl92 ml92 e s (Nat.lt_succ_self _)) ?_
      exact ⟨(g+1),([.val (.int .i64 u.1)::(.val (.string u.2.1)::(.val (.int .i64 u.2.2.1)::((u.2.2.2.1.cs)++([.list (u.2.2.2.2.map A1) .none])))),.val (.int .i64 d.1.1)::(.val (.string d.1.2.1)::(.val (.int .i64 d.1.2.2.1)::((d.1.2.2.2.1.cs)++([.list (d.1.2.2.2.2.map A1) .none]))))]),Rl92,ef hs,ef hs,c,h⟩
     ·replace h:=AN h hf105
      have ao:(decide (u.2.2.1=1))=false:=by simpa [hf105] using hf102
      have hs:=And.intro hf102 hs
      have hs:=And.intro hf105 hs
      have hs:=And.intro ao hs
      refine rk 2 [2,3,13,220] hs ?_
      refine Ii ?_
      refine ne hs v ?_
      clear v
      refine AP false ev (ef hs) (fun hb111=>by cases hb111) (fun hb111=>?_)
      refine sk [2,3,13] hs E ?_
      clear E
      obtain ⟨bs,h⟩:=Ac h
      refine rl [2,3,13] hs (fun e s=>Vl92 ml92 e s (Nat.lt_succ_self _)) ?_
      exact ⟨(g+1),([.val (.int .i64 u.1)::(.val (.string u.2.1)::(.val (.int .i64 u.2.2.1)::((u.2.2.2.1.cs)++([.list (u.2.2.2.2.map A1) .none])))),.val (.int .i64 d.1.1)::(.val (.string d.1.2.1)::(.val (.int .i64 d.1.2.2.1)::((d.1.2.2.2.1.cs)++([.list (d.1.2.2.2.2.map A1) .none]))))]),Rl92,ef hs,ef hs,c,h⟩
   ·clear h;rintro e st ⟨Xk89,Rk89,rfl,rfl,c,h⟩
    rw [PG] at h
    refine td hN z C a c ?_
    refine rg [4] hs ?_
    exact rt h hs a c
  refine sk [2,3] hs bb ?_
  exact ⟨([]),Rw,ef hs,ef hs,c,h⟩
 ·clear h;rintro e st ⟨Xk21,Rk21,rfl,rfl,c,h⟩
  rw [PU] at h
  refine td hN z C a c ?_
  refine rc 2 [4] hs ?_;intro K114 H
  refine Ab _ (HC w0 _ _ _ a0 a1) (hv hs) ?_
  refine ne hs H ?_
  clear H
  exact rt h hs a c
theorem V5 (w0:World):∀ n:Nat,UD w0 (Gp n)
 | 0=>fun _ _ _ _ _ _ h=>(nomatch h)
 | n+1=>X4 w0 (Gp n) (V5 w0 n) n
def Z7 (a b:Ty):Bool:=match KT a.min a.scale b.scale,KT a.max a.scale b.scale with
 | some x,some y=>Lp x b&&Lp y b&&(decide (a.scale≤b.scale)||decide (a.min=a.max))
 | _,_=>false
def Yx (a b:Ty):Bool:=decide (b.min≤a.min)&&decide (a.max≤b.max)
def ZE (a b:Ty):Bool:=if a.words≠[] then a.words.all fun w=>GY w b else if b.words≠[] then decide (a.max=0)&&GY ⟨#[]⟩ b else Yx a b
def Ou:Nat→Ty→Ty→Bool
 | 0,_,_=>false
 | d+1,a,b =>
  if (a.kind=2∨a.kind=3)∧(b.kind=2∨b.kind=3) then Z7 a b
  else if a.kind≠b.kind then false
  else if b.kind=1 then true
  else if b.kind=4 then ZE a b
  else if b.kind=8 then Yx a b&&(decide (a.max=0)||(match a.elem,b.elem with | [x],[y]=>Ou d x y | _,_=>false))
  else if b.kind=9 then b.fields.all fun g=>match GF a.fields g.1 with | none => !decide (g.2.2.1=1) | some p=>Ou d p.2.2.2.1 g.2.2.2.1 && !(decide (g.2.2.1=1)&&decide (p.2.2.1=2))
  else if b.kind=10 then a.fields.all fun p=>match GF b.fields p.1 with | none=>false | some g=>Ou d p.2.2.2.1 g.2.2.2.1
  else Yx a b
theorem ZdE {t:Ty} (o:t.Own) (h:t.kind=2∨t.kind=3):(-999999999999999≤t.min∧t.min≤999999999999999)∧(-999999999999999≤t.max∧t.max≤999999999999999):=by
 obtain ⟨_,_,c⟩:=o.bounds (by omega) (by omega)
 have:=S9 o h
 omega
theorem ZgR (n:Nat) (a b:Ty) (oa:a.Own) (ob:b.Own) (ha:a.kind=2∨a.kind=3) (hb:b.kind=2∨b.kind=3) (hn:200<n):Fq n a b=some (Z7 a b):=by
 have f:=oa.scale
 have e:=ob.scale
 obtain ⟨c,d⟩:=ZdE oa ha
 rw [Fq,PK n _ _ _ c (by omega) (by omega) hn,Option.bind_some,PK n _ _ _ d (by omega) (by omega) hn,Option.bind_some,Z7]
 cases KT a.min a.scale b.scale with
 | none=>simp
 | some x =>
  cases KT a.max a.scale b.scale with
  | none=>simp
  | some y=>simp [Lp,A8,Bool.and_assoc]
def okN (b:Ty):Option Int→Bool
 | some m=>Lp m b
 | none=>false
theorem X5 {o:Option Int} {y:Int × Bool} {b:Ty} (ob:b.Own) (hb:b.kind=2∨b.kind=3) (h:ZhD o y):(y.2&&AU y.1 b)=okN b o:=by
 have a:=S9 ob hb
 cases o with
 | some m =>
  have h:y=(m,true):=h
  subst h;rfl
 | none =>
  rcases h with h | ⟨h,h2⟩
  ·rw [h];rfl
  ·rw [h,Bool.true_and]
   show AU y.1 b=false
   rw [Bool.eq_false_iff]
   intro w
   have:Lp y.1 b=true:=w
   rw [Jl] at this
   omega
theorem Zfe (n:Nat) (a b:Ty) (oa:a.Own) (ob:b.Own) (ha:a.kind=2∨a.kind=3) (hb:b.kind=2∨b.kind=3) (hn:200<n) :
  ((EY n a.min (b.scale-a.scale)).bind fun y7=>if BR (b.scale-a.scale) then (EY n a.max (b.scale-a.scale)).bind fun y10=>if (decide (b.scale<a.scale) && !decide (a.min=a.max))=true then some false else some (((y7.2&&y10.2)&&AU y7.1 b)&&AU y10.1 b) else none)=some (Z7 a b):=by
 have t:=oa.scale
 have o:=ob.scale
 obtain ⟨m,g⟩:=ZdE oa ha
 obtain ⟨y,d,f⟩:=UY n a.min a.scale b.scale m (by omega) (by omega) hn
 obtain ⟨z,h,i⟩:=UY n a.max a.scale b.scale g (by omega) (by omega) hn
 have k:=X5 ob hb f
 have l:=X5 ob hb i
 rw [d,Option.bind_some,if_pos (by unfold BR;omega),h,Option.bind_some,Z7]
 have j:(((y.2&&z.2)&&AU y.1 b)&&AU z.1 b)=((y.2&&AU y.1 b)&&(z.2&&AU z.1 b)):=by
  generalize y.2=p;generalize z.2=q;generalize AU y.1 b=r;generalize AU z.1 b=s
  revert p q r s;decide
 rw [j,k,l]
 by_cases c:b.scale<a.scale∧a.min≠a.max
 ·rw [if_pos (by rw [Bool.and_eq_true,decide_eq_true_eq,Bool.not_eq_true',decide_eq_false_iff_not];exact c),decide_eq_false (show ¬ a.scale≤b.scale by omega),decide_eq_false c.2]
  cases KT a.min a.scale b.scale with
  | none=>rfl
  | some x=>cases KT a.max a.scale b.scale<;>simp [okN]
 ·rw [if_neg (by rw [Bool.and_eq_true,decide_eq_true_eq,Bool.not_eq_true',decide_eq_false_iff_not];exact c)]
  have e:(decide (a.scale≤b.scale)||decide (a.min=a.max))=true:=by
   rw [Bool.or_eq_true,decide_eq_true_eq,decide_eq_true_eq]
   by_cases q:a.min=a.max
   ·exact .inr q
   ·left
    have:¬ b.scale<a.scale:=fun z=>c ⟨z,q⟩
    omega
  rw [e]
  cases KT a.min a.scale b.scale with
  | none=>rfl
  | some x=>cases KT a.max a.scale b.scale<;>simp [okN]
theorem Ze0 (n:Nat) (a b:Ty) (w:ByteArray) (ha:a.kind=4) (hb:b.kind=4) (hl:b.words.length≤1000000000) (hn:b.words.length+1<n):Az n a b (Gn w)=some (Gn w,GY w b):=by
 obtain ⟨n,rfl⟩:∃ m,n=m+1:=⟨n-1,by omega⟩
 have c:(Gn w).text=w:=rfl
 rw [Az,Fv,MK (.inl (by omega)),if_neg (by decide),decide_eq_false (show ¬ b.kind=2 by omega),if_neg (by decide),decide_eq_false (show ¬ b.kind=3 by omega),Bq,if_neg (by decide),decide_eq_false (show ¬ b.kind=6 by omega),if_neg (by decide),decide_eq_false (show ¬ b.kind=7 by omega),Bz,if_neg (by decide),decide_eq_false (show ¬ b.kind=5 by omega),if_neg (by decide),decide_eq_true hb,if_pos rfl,GY]
 by_cases q:b.words=[]
 ·rw [if_pos q,q,if_neg (by decide)];rfl
 ·have d:0<b.words.length:=List.length_pos_iff.2 q
  rw [if_neg q,if_pos (by rw [decide_eq_true_eq];omega),Jg n _ b hl (by omega),Option.bind_some,c]
theorem Tv (n:Nat) (l:List ByteArray) (f:ByteArray→Option Bool) (p:ByteArray→Bool) (hf:∀ x∈l,f x=some (p x)) (hl:l.length≤1000000000) (hn:l.length<n):CJ n l f=some (l.any p):=by
 have b:∀ (k m i:Nat),i+k=l.length→k<m→BL n l f m i=some (OJ p l i):=by
  intro k
  induction k with
  | zero =>
   intro m i c d
   obtain ⟨m,rfl⟩:∃ q,m=q+1:=⟨m-1,by omega⟩
   rw [BL,An,decide_eq_false (by omega),LI p l i (by omega)];rfl
  | succ k ih =>
   intro m i c d
   obtain ⟨m,rfl⟩:∃ q,m=q+1:=⟨m-1,by omega⟩
   have a:i<l.length:=by omega
   rw [BL,An,decide_eq_true a,if_pos rfl,Au a,Option.bind_some,hf _ (List.getElem_mem a),Option.bind_some,Jp p l i a]
   cases p l[i] with
   | true=>rfl
   | false =>
    rw [if_neg (by decide),if_pos (Ar (by omega)),if_neg (show ¬ (false=true) by decide)]
    exact ih m (i+1) (by omega) (by omega)
 have e:EB n l f=some (OJ p l 0):=b l.length n 0 (by omega) hn
 rw [CJ,e,Option.bind_some,MU]
theorem ZgI (n:Nat) (a b:Ty) (ha:a.kind=4) (hb:b.kind=4) (la:a.words.length≤1048576) (lb:b.words.length≤1048576) (hn:1048580<n):GQ n a b=some (ZE a b):=by
 rw [GQ,ZE]
 by_cases q:a.words=[]
 ·rw [q,if_neg (by decide),if_neg (show ¬ (([]:List ByteArray)≠[]) from fun h=>h rfl)]
  by_cases r:b.words=[]
  ·rw [r,if_neg (by decide),if_neg (show ¬ (([]:List ByteArray)≠[]) from fun h=>h rfl)];rfl
  ·have f:0<b.words.length:=List.length_pos_iff.2 r
   rw [if_pos r,if_pos (by rw [decide_eq_true_eq];omega)]
   by_cases z:a.max=0
   ·rw [decide_eq_true z,if_pos rfl,Jg n _ b (by omega) (by omega),GY,if_neg r,Bool.true_and];rfl
   ·rw [decide_eq_false z,if_neg (by decide),Bool.false_and]
 ·have d:0<a.words.length:=List.length_pos_iff.2 q
  rw [if_pos q,if_pos (by rw [decide_eq_true_eq];omega),Tv n a.words (fun c=>Eo n c a b) (fun w => !GY w b) (fun x e=>by rw [Eo,Ze0 n a b x ha hb (by omega) (by omega)];rfl) (by omega) (by omega),Option.bind_some,List.not_any_eq_all_not]
  simp
theorem ZcP (rec:Ty→Ty→Option Bool) (n:Nat) (a b:Ty) (la:a.words.length≤1048576) (lb:b.words.length≤1048576) (hn:1048580<n):∀ (k m i:Nat),i+k=a.words.length→k<m →
  F7 rec n a b m i=if ((a.words.drop i).all fun w=>GY w b)=true then Ks rec n a b else some false:=by
 intro k
 induction k with
 | zero =>
  intro m i d e
  obtain ⟨m,rfl⟩:∃ q,m=q+1:=⟨m-1,by omega⟩
  rw [F7,An,decide_eq_false (by omega),if_neg (show ¬ (false=true) by decide),List.drop_eq_nil_of_le (by omega),List.all_nil,if_pos (show true=true from rfl)]
 | succ k ih =>
  intro m i d e
  obtain ⟨m,rfl⟩:∃ q,m=q+1:=⟨m-1,by omega⟩
  have c:i<a.words.length:=by omega
  rw [F7,An,decide_eq_true c,if_pos rfl,Au c,Option.bind_some,WW n _ b (by omega) (by omega),Option.bind_some,List.drop_eq_getElem_cons c,List.all_cons]
  cases GY a.words[i] b with
  | false=>rw [if_pos (show (!false)=true from rfl),Bool.false_and,if_neg (show ¬ (false=true) by decide)]
  | true =>
   rw [if_neg (show ¬ ((!true)=true) by decide),if_pos (Ar (by omega)),Bool.true_and]
   exact ih m (i+1) (by omega) (by omega)
theorem ZfM (rec:Ty→Ty→Option Bool) (n:Nat) (a b:Ty) (la:a.words.length≤1048576) (lb:b.words.length≤1048576) (hn:1048580<n):F7 rec n a b n 0=some (ZE a b):=by
 have e:=ZcP rec n a b la lb hn a.words.length n 0 (by omega) (by omega)
 have c:F7 rec n a b n 0=_:=e
 rw [c,List.drop_zero,ZE,Ks]
 by_cases q:a.words=[]
 ·rw [q,List.all_nil,if_pos rfl,if_neg (by decide),if_neg (show ¬ (([]:List ByteArray)≠[]) from fun h=>h rfl)]
  by_cases r:b.words=[]
  ·rw [r,if_neg (by decide),if_neg (show ¬ (([]:List ByteArray)≠[]) from fun h=>h rfl)];rfl
  ·have d:0<b.words.length:=List.length_pos_iff.2 r
   rw [if_pos r,if_pos (by rw [decide_eq_true_eq];omega)]
   by_cases z:a.max=0
   ·rw [decide_eq_true z,if_pos rfl,WW n _ b (by omega) (by omega),Bool.true_and];rfl
   ·rw [decide_eq_false z,if_neg (by decide),Bool.false_and]
 ·have f:0<a.words.length:=List.length_pos_iff.2 q
  rw [if_pos q]
  cases h:a.words.all fun w=>GY w b with
  | false=>rfl
  | true=>rw [if_pos rfl,if_pos (by rw [decide_eq_true_eq];omega)]
def Zfq (f:Ty→Ty→Bool) (a:Ty) (g:TF):Bool:=match GF a.fields g.1 with | none => !decide (g.2.2.1=1) | some p=>f p.2.2.2.1 g.2.2.2.1 && !(decide (g.2.2.1=1)&&decide (p.2.2.1=2))
def Ze7 (f:Ty→Ty→Bool) (b:Ty) (p:TF):Bool:=match GF b.fields p.1 with | none=>false | some g=>f p.2.2.2.1 g.2.2.2.1
theorem YN (rec:Ty→Ty→Option Bool) (f:Ty→Ty→Bool) (n:Nat) (a b:Ty) (la:a.fields.length≤1000000) (lb:b.fields.length≤1000000) (hn:1048580<n) (hr:∀ g∈b.fields,∀ p,GF a.fields g.1=some p→rec p.2.2.2.1 g.2.2.2.1=some (f p.2.2.2.1 g.2.2.2.1)):∀ (k m i:Nat),i+k=b.fields.length→k<m →
  EZ rec n a b m i=some ((b.fields.drop i).all (Zfq f a))
 | k,0,i,_,h=>absurd h (Nat.not_lt_zero _)
 | 0,m+1,i,hi,_=>by
  rw [EZ,An,decide_eq_false (by omega),if_neg (by decide),List.drop_eq_nil_of_le (by omega),List.all_nil];rfl
 | k+1,m+1,i,hi,hm=>by
  have d:i<b.fields.length:=by omega
  have j:=List.getElem_mem d
  have ih:=YN rec f n a b la lb hn hr k m (i+1) (by omega) (by omega)
  rw [EZ,An,decide_eq_true d,if_pos rfl,Au d,Option.bind_some,Lc n a _ (by omega) (by omega),Option.bind_some,List.drop_eq_getElem_cons d,List.all_cons,Zfq]
  cases q:GF a.fields b.fields[i].1 with
  | none =>
   by_cases c:b.fields[i].2.2.1=1
   ·rw [decide_eq_true c,if_pos (by rfl)];rfl
   ·rw [decide_eq_false c,if_neg (by simp),if_neg (by simp),if_pos (Ar (by omega))]
    simpa using ih
  | some p =>
   rw [if_neg (by simp),if_pos Option.isSome_some,Option.getD_some,hr _ j p q,Option.bind_some]
   simp only
   cases hf:f p.2.2.2.1 b.fields[i].2.2.2.1 with
   | false=>rw [if_pos (by rfl)];simp [hf]
   | true =>
    by_cases c:b.fields[i].2.2.1=1∧p.2.2.1=2
    ·rw [decide_eq_true c.1,decide_eq_true c.2,if_pos (by rfl)];simp [hf]
    ·have e:(decide (b.fields[i].2.2.1=1)&&decide (p.2.2.1=2))=false:=by
      rw [Bool.eq_false_iff];intro z;rw [Bool.and_eq_true,decide_eq_true_eq,decide_eq_true_eq] at z;exact c z
     rw [e,if_neg (by decide),if_pos (Ar (by omega))]
     refine (show EZ rec n a b m ((i:Int)+1)=_ from ih).trans ?_
     simp [hf]
theorem Yw (rec:Ty→Ty→Option Bool) (f:Ty→Ty→Bool) (n:Nat) (a b:Ty) (la:a.fields.length≤1000000) (lb:b.fields.length≤1000000) (hn:1048580<n) (hr:∀ p∈a.fields,∀ g,GF b.fields p.1=some g→rec p.2.2.2.1 g.2.2.2.1=some (f p.2.2.2.1 g.2.2.2.1)):∀ (k m i:Nat),i+k=a.fields.length→k<m →
  G6 rec n a b m i=some ((a.fields.drop i).all (Ze7 f b))
 | k,0,i,_,h=>absurd h (Nat.not_lt_zero _)
 | 0,m+1,i,hi,_=>by
  rw [G6,An,decide_eq_false (by omega),if_neg (by decide),List.drop_eq_nil_of_le (by omega),List.all_nil];rfl
 | k+1,m+1,i,hi,hm=>by
  have c:i<a.fields.length:=by omega
  have d:=List.getElem_mem c
  have ih:=Yw rec f n a b la lb hn hr k m (i+1) (by omega) (by omega)
  rw [G6,An,decide_eq_true c,if_pos rfl,Au c,Option.bind_some,Lc n b _ (by omega) (by omega),Option.bind_some,List.drop_eq_getElem_cons c,List.all_cons,Ze7]
  cases q:GF b.fields a.fields[i].1 with
  | none=>rw [if_pos (by rfl)];rfl
  | some g =>
   rw [if_neg (by simp),Option.getD_some,hr _ d g q,Option.bind_some]
   simp only
   cases hf:f a.fields[i].2.2.2.1 g.2.2.2.1 with
   | false=>rfl
   | true =>
    rw [if_neg (by decide),if_pos (Ar (by omega)),Bool.true_and]
    exact ih
theorem ZaC {α:Type} (l:List α) (p:α→Bool):(!l.any fun x => !p x)=l.all p:=by rw [List.not_any_eq_all_not];simp
theorem XA:∀ (d n:Nat) (a b:Ty),a.small→b.small→a.Good→b.Good→a.depth≤d→d+2000000<n→AD n a b=some (Ou d a b)∧Gp n a b=some (Ou d a b)
 | 0,n,a,b,_,_,_,_,h,_=>by have:=a.depth_eq;omega
 | d+1,0,a,b,_,_,_,_,_,h=>absurd h (by omega)
 | d+1,n+1,a,b,sa,sb,ga,gb,hd,hn=>by
  have s:=ga.own
  have m:=gb.own
  have Q:=a.lens
  have U:=b.lens
  have O:=sa.1
  have G:=sb.1
  have F:=(a.ok_eq.1 sa.2.2).1
  have E:=(b.ok_eq.1 sb.2.2).1
  rw [AD,Fa,Gp,QR,Ou]
  by_cases num:(a.kind=2∨a.kind=3)∧(b.kind=2∨b.kind=3)
  ·have r:(if decide (b.kind=2)=true then Bn (AD n) n a b true else Bn (AD n) n a b (decide (b.kind=3)))=Bn (AD n) n a b true:=by
    rcases num.2 with q | q
    ·rw [decide_eq_true q,if_pos rfl]
    ·rw [decide_eq_true q];exact ite_self _
   have J:=s.scale
   have N:=m.scale
   have f:=Zfe n a b s m num.1 num.2 (by omega)
   rw [if_pos num,MK (.inr num),if_neg (by decide),r,Bn,if_pos rfl,ZgR n a b s m num.1 num.2 (by omega),QO s num.1,QO m num.2,decide_eq_true J.1,decide_eq_true N.1,if_pos (by rfl),if_pos (by unfold BR;omega)]
   exact ⟨rfl,f⟩
  have t:(decide (0≤Aw a)&&decide (0≤Aw b))=false:=by
   rw [Bool.eq_false_iff]
   intro q
   rw [Bool.and_eq_true,decide_eq_true_eq,decide_eq_true_eq] at q
   exact num ⟨O6 q.1,O6 q.2⟩
  rw [if_neg num,t,if_neg (show ¬ (false=true) by decide)]
  by_cases ne:a.kind=b.kind
  rotate_left
  ·rw [if_pos ne,U9 ne num,if_pos (by rfl),decide_eq_false ne,if_pos (by rfl)]
   exact ⟨rfl,rfl⟩
  have u:¬ b.kind=2:=fun q=>num ⟨by omega,.inl q⟩
  have w:¬ b.kind=3:=fun q=>num ⟨by omega,.inr q⟩
  rw [if_neg (show ¬ a.kind≠b.kind from fun q=>q ne),MK (.inl ne),if_neg (show ¬ ((!true)=true) by decide),decide_eq_false u,if_neg (show ¬ (false=true) by decide),decide_eq_false w,Bn,if_neg (show ¬ (false=true) by decide),decide_eq_true ne,if_neg (show ¬ ((!true)=true) by decide)]
  by_cases k1:b.kind=1
  ·rw [if_pos k1,decide_eq_true k1,if_pos rfl,if_pos rfl]
   exact ⟨rfl,rfl⟩
  rw [if_neg k1,decide_eq_false k1,if_neg (show ¬ (false=true) by decide),if_neg (show ¬ (false=true) by decide)]
  by_cases k4:b.kind=4
  ·rw [if_pos k4,decide_eq_true k4,if_pos rfl,if_pos rfl,ZgI n a b (by omega) k4 F E (by omega),ZfM _ n a b F E (by omega)]
   exact ⟨rfl,rfl⟩
  rw [if_neg k4,decide_eq_false k4,if_neg (show ¬ (false=true) by decide),if_neg (show ¬ (false=true) by decide)]
  by_cases k8:b.kind=8
  ·obtain ⟨x,D⟩:=s.elem (by omega)
   obtain ⟨y,C⟩:=m.elem k8
   have k:x∈a.elem:=by rw [D];simp
   have l:y∈b.elem:=by rw [C];simp
   obtain ⟨H,K⟩:=XA d n x y (Ty.small_elem sa k) (Ty.small_elem sb l) (Gt ga k) (Gt gb l) (by have:=Ty.depth_elem k;omega) (by omega)
   rw [if_pos k8,decide_eq_true k8,if_pos rfl,if_pos rfl,D,C,show Cb [x] 0=some x from rfl,show Cb [y] 0=some y from rfl,Option.bind_some,Option.bind_some,Option.bind_some,Option.bind_some,H,K,show CL a b=Yx a b from rfl,show FU a b=Yx a b from rfl]
   cases Yx a b with
   | false=>exact ⟨rfl,rfl⟩
   | true =>
    by_cases z:a.max=0
    ·rw [decide_eq_true z];exact ⟨rfl,rfl⟩
    ·rw [decide_eq_false z];exact ⟨rfl,rfl⟩
  rw [if_neg k8,decide_eq_false k8,if_neg (show ¬ (false=true) by decide),if_neg (show ¬ (false=true) by decide)]
  by_cases k9:b.kind=9
  ·have ih:∀ g∈b.fields,∀ p,GF a.fields g.1=some p→AD n p.2.2.2.1 g.2.2.2.1=some (Ou d p.2.2.2.1 g.2.2.2.1)∧Gp n p.2.2.2.1 g.2.2.2.1=some (Ou d p.2.2.2.1 g.2.2.2.1):=fun g e p c=>by
    have j:p∈a.fields:=List.mem_of_find?_eq_some c
    exact XA d n _ _ (Ty.small_field sa j) (Ty.small_field sb e) (Bv ga j) (Bv gb e) (by have:=Ty.depth_field j;omega) (by omega)
   have r:=Nn n b.fields (fun v=>CG (AD n) n v a) (fun g => !Zfq (Ou d) a g) (fun g e=>by
    rw [CG,Je,Ti n a.fields _ (by omega) (by omega),Option.bind_some,Zfq]
    cases q:GF a.fields g.1 with
    | none=>rfl
    | some p=>rw [if_neg (by simp),Option.getD_some,(ih g e p q).1];rfl) (by omega) (by omega)
   have f:=YN (Gp n) (Ou d) n a b (by omega) (by omega) (by omega) (fun g e p c=>(ih g e p c).2) b.fields.length n 0 (by omega) (by omega)
   rw [List.drop_zero] at f
   have i:EZ (Gp n) n a b n 0=_:=f
   rw [if_pos k9,decide_eq_true k9,if_pos rfl,r,Option.bind_some,decide_eq_false (show ¬ b.kind=10 by omega),if_neg (show ¬ (false=true) by decide),if_pos rfl,i,ZaC]
   exact ⟨rfl,rfl⟩
  rw [if_neg k9,decide_eq_false k9,if_neg (show ¬ (false=true) by decide)]
  by_cases k10:b.kind=10
  ·have ih:∀ p∈a.fields,∀ g,GF b.fields p.1=some g→AD n p.2.2.2.1 g.2.2.2.1=some (Ou d p.2.2.2.1 g.2.2.2.1)∧Gp n p.2.2.2.1 g.2.2.2.1=some (Ou d p.2.2.2.1 g.2.2.2.1):=fun p c g e=>by
    have o:g∈b.fields:=List.mem_of_find?_eq_some e
    exact XA d n _ _ (Ty.small_field sa c) (Ty.small_field sb o) (Bv ga c) (Bv gb o) (by have:=Ty.depth_field c;omega) (by omega)
   have r:=Nn n a.fields (fun v=>CE (AD n) n v b) (fun p => !Ze7 (Ou d) b p) (fun p c=>by
    rw [CE,Iz,Ti n b.fields _ (by omega) (by omega),Option.bind_some,Ze7]
    cases q:GF b.fields p.1 with
    | none=>rfl
    | some g=>rw [if_pos (by rfl),Option.getD_some,(ih p c g q).1];rfl) (by omega) (by omega)
   have f:=Yw (Gp n) (Ou d) n a b (by omega) (by omega) (by omega) (fun p c g e=>(ih p c g e).2) a.fields.length n 0 (by omega) (by omega)
   rw [List.drop_zero] at f
   have i:G6 (Gp n) n a b n 0=_:=f
   rw [if_pos k10,decide_eq_true k10,if_pos rfl,if_pos rfl,r,Option.bind_some,i,ZaC]
   exact ⟨rfl,rfl⟩
  ·rw [if_neg k10,decide_eq_false k10,if_neg (show ¬ (false=true) by decide),if_neg (show ¬ (false=true) by decide),if_neg (show ¬ (false=true) by decide)]
   exact ⟨rfl,rfl⟩
end Go.Proofs.YtgpmlelfkjfbiaaGreatDoor
