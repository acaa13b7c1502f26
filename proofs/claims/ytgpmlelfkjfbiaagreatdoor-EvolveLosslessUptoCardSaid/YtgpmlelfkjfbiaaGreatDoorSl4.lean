/-
  Part 4 of the proof: rules and walks that the claim's last text uses.
-/
import Derived.Test.YtgpmlelfkjfbiaaGreatDoorSl3
set_option linter.unusedSimpArgs false
set_option linter.unusedVariables false
set_option maxRecDepth 100000
set_option maxHeartbeats 4000000
namespace Go.Proofs.YtgpmlelfkjfbiaaGreatDoor
open Go Go.RowKit Go.Ev
theorem AD {α:Type} {l:List α} {k:Nat} (h:k<l.length):Ci l (k:Int)=some l[k]:=ZhI h
theorem Av {a b:Nat}:decide ((a:Int)<(b:Int))=decide (a<b):=by simp
theorem AA {k:Nat} (h:k<1000000000000):B2 ((k:Int)+1):=by unfold B2;omega
theorem Ty.size_pos (t:Ty):0<t.size:=by cases t;simp [Ty.size];omega
theorem Ty.size_eq (t:Ty):t.size=1+Hi t.elem+EQ t.fields:=by cases t;simp [Ty.size,Ty.elem,Ty.fields]
theorem UE:∀ (l:List Ty) (v:Ty),v∈l→v.size≤Hi l
 | [],_,h=>by simp at h
 | a::r,v,h=>by
  rcases List.mem_cons.1 h with rfl | h
  ·simp [Hi]
  ·have:=UE r v h
   simp [Hi];omega
theorem Tj:∀ (l:List (Int × ByteArray × Int × Ty × List Vl)) (p:Int × ByteArray × Int × Ty × List Vl),p∈l→p.2.2.2.1.size≤EQ l
 | [],_,h=>by simp at h
 | (a,b,c,t,d)::r,p,h=>by
  rcases List.mem_cons.1 h with rfl | h
  ·simp [EQ]
  ·have:=Tj r p h
   simp [EQ];omega
theorem VI:∀ l:List Ty,l.length≤Hi l
 | []=>Nat.le_refl _
 | v::r=>by have:=VI r;have:=v.size_pos;simp [Hi];omega
theorem S0:∀ l:List (Int × ByteArray × Int × Ty × List Vl),l.length≤EQ l
 | []=>Nat.le_refl _
 | (_,_,_,t,_)::r=>by have:=S0 r;have:=t.size_pos;simp [EQ];omega
theorem Ty.elem_size (t x:Ty) (h:x∈t.elem):x.size<t.size:=by have:=UE _ _ h;have:=t.size_eq;omega
theorem Ty.field_size (t:Ty) (p) (h:p∈t.fields):p.2.2.2.1.size<t.size:=by have:=Tj _ _ h;have:=t.size_eq;omega
theorem Ty.lens (t:Ty):t.elem.length<t.size∧t.fields.length<t.size:=by have:=VI t.elem;have:=S0 t.fields;have:=t.size_eq;omega
theorem Vl.list_size (v x:Vl) (h:x∈v.list):x.size<v.size:=by have:=NN _ _ h;have:=v.size_eq;omega
theorem Vl.field_size (v:Vl) (p) (h:p∈v.fields):p.2.size<v.size:=by have:=N2 _ _ h;have:=v.size_eq;omega
mutual
def Ty.depth:Ty→Nat
 | .mk _ _ _ _ _ e f=>1+max (Ej e) (Dq f)
def Ej:List Ty→Nat
 | []=>0
 | t::r=>max t.depth (Ej r)
def Dq:List (Int × ByteArray × Int × Ty × List Vl)→Nat
 | []=>0
 | (_,_,_,t,_)::r=>max t.depth (Dq r)
end
mutual
def Vl.ok:Vl→Prop
 | .mk _ _ _ t l f=>t.size≤1048576∧ZaV l∧Z8 f
def ZaV:List Vl→Prop
 | []=>True
 | v::r=>v.ok∧ZaV r
def Z8:List (ByteArray × Vl)→Prop
 | []=>True
 | (n,v)::r=>n.size≤1048576∧v.ok∧Z8 r
end
theorem YK:∀ l,ZaV l↔∀ v∈l,v.ok
 | []=>by simp [ZaV]
 | v::r=>by simp [ZaV,YK r]
theorem Zq:∀ l,Z8 l↔∀ p∈l,p.1.size≤1048576∧p.2.ok
 | []=>by simp [Z8]
 | (n,v)::r=>by simp [Z8,Zq r,and_assoc]
def Vl.small (v:Vl):Prop:=v.size≤1048575∧v.depth≤1048576∧v.ok
mutual
def Ty.ok:Ty→Prop
 | .mk _ _ _ _ w e f=>w.length≤1048576∧(∀ x∈w,x.size≤1048576)∧ZbQ e∧WS f
def ZbQ:List Ty→Prop
 | []=>True
 | v::r=>v.ok∧ZbQ r
def WS:List (Int × ByteArray × Int × Ty × List Vl)→Prop
 | []=>True
 | (_,n,_,t,d)::r=>(n.size≤1048576∧t.ok∧d.length≤1048576∧∀ v∈d,v.small)∧WS r
end
theorem YY:∀ l,ZbQ l↔∀ v∈l,v.ok
 | []=>by simp [ZbQ]
 | v::r=>by simp [ZbQ,YY r]
theorem W2:∀ l,WS l↔∀ p∈l,p.2.1.size≤1048576∧p.2.2.2.1.ok∧p.2.2.2.2.length≤1048576∧∀ v∈p.2.2.2.2,v.small
 | []=>by simp [WS]
 | (_,n,_,t,d)::r=>by simp [WS,W2 r]
theorem Ty.ok_eq (t:Ty):t.ok↔t.words.length≤1048576∧(∀ x∈t.words,x.size≤1048576)∧(∀ v∈t.elem,v.ok)∧∀ p∈t.fields,p.2.1.size≤1048576∧p.2.2.2.1.ok∧p.2.2.2.2.length≤1048576∧∀ v∈p.2.2.2.2,v.small:=by
 cases t;simp only [Ty.ok,Ty.words,Ty.elem,Ty.fields,YY,W2]
theorem Vl.ok_eq (v:Vl):v.ok↔v.text.size≤1048576∧(∀ x∈v.list,x.ok)∧∀ p∈v.fields,p.1.size≤1048576∧p.2.ok:=by
 cases v;simp only [Vl.ok,Vl.text,Vl.list,Vl.fields,YK,Zq]
theorem Nu:∀ (l:List Ty) (d:Nat),Ej l≤d↔∀ v∈l,v.depth≤d
 | [],d=>by simp [Ej]
 | v::r,d=>by simp [Ej,Nat.max_le,Nu r d]
theorem LO:∀ (l:List (Int × ByteArray × Int × Ty × List Vl)) (d:Nat),Dq l≤d↔∀ v∈l,v.2.2.2.1.depth≤d
 | [],d=>by simp [Dq]
 | (_,_,_,t,_)::r,d=>by simp [Dq,Nat.max_le,LO r d]
theorem Ty.depth_eq (t:Ty):t.depth=1+Max.max (Ej t.elem) (Dq t.fields):=by cases t;simp [Ty.depth,Ty.elem,Ty.fields]
theorem Vl.eta (v:Vl):Vl.mk v.kind v.int v.scale v.text v.list v.fields=v:=by cases v;rfl
theorem Ty.eta (v:Ty):Ty.mk v.kind v.min v.max v.scale v.words v.elem v.fields=v:=by cases v;rfl
theorem Vp (rec:Vl→Option Vl) (n:Nat) (v:Vl) (hs:v.fields.length≤1000000000000) (hr:∀ p∈v.fields,rec p.2=some p.2) (b:List Vl):∀ (k m i:Nat),i+k=v.fields.length→k<m→G8 rec n v m i b (v.fields.take i)=some (Vl.mk v.kind v.int v.scale v.text b v.fields)
 | k,0,i,_,h=>absurd h (Nat.not_lt_zero _)
 | 0,m+1,i,hi,_=>by
  rw [G8,Av,Ac (by omega)]
  simp only [Bool.false_eq_true,if_false,LU]
  rw [List.take_of_length_le (by omega)]
 | k+1,m+1,i,hi,hm=>by
  have a:i<v.fields.length:=by omega
  rw [G8,Av,Ad a]
  simp only [if_true,AD a,Ab,hr _ (List.getElem_mem a)]
  rw [Ae (by rw [List.length_take];omega),Ae (AA (by omega))]
  have e:v.fields.take i++[(v.fields[i].1,v.fields[i].2)]=v.fields.take (i+1):=by rw [List.take_succ_eq_append_getElem a]
  rw [e]
  exact Vp rec n v hs hr b k m (i+1) (by omega) (by omega)
theorem Sr (rec:Vl→Option Vl) (n:Nat) (v:Vl) (hs:v.fields.length≤1000000000000∧v.list.length≤1000000000000) (hn:v.fields.length<n) (hr:(∀ x∈v.list,rec x=some x)∧∀ p∈v.fields,rec p.2=some p.2):∀ (k m i:Nat),i+k=v.list.length→k<m→Ih rec n v m i (v.list.take i)=some v
 | k,0,i,_,h=>absurd h (Nat.not_lt_zero _)
 | 0,m+1,i,hi,_=>by
  rw [Ih,Av,Ac (by omega)]
  simp only [Bool.false_eq_true,if_false,NF]
  rw [List.take_of_length_le (by omega)]
  have:=Vp rec n v hs.1 hr.2 v.list v.fields.length n 0 (by omega) hn
  rw [List.take_zero] at this
  exact this.trans (by rw [Vl.eta])
 | k+1,m+1,i,hi,hm=>by
  have a:i<v.list.length:=by omega
  rw [Ih,Av,Ad a]
  simp only [if_true,AD a,Ab,hr.1 _ (List.getElem_mem a)]
  rw [Ae (by rw [List.length_take];omega),Ae (AA (by omega))]
  have e:v.list.take i++[v.list[i]]=v.list.take (i+1):=by rw [List.take_succ_eq_append_getElem a]
  rw [e]
  exact Sr rec n v hs hn hr k m (i+1) (by omega) (by omega)
theorem Qg:∀ (n:Nat) (v:Vl),v.size<n→v.wide=true→BU n v=some v
 | 0,v,h,_=>absurd h (Nat.not_lt_zero _)
 | n+1,v,h,hs=>by
  have e:=Iw v
  obtain ⟨g,f,d,c⟩:=v.wide_iff.1 hs
  rw [BU,MS]
  have:=Sr (BU n) n v ⟨by omega,by omega⟩ (by omega) ⟨fun x b=>Qg n x (by have:=v.list_size x b;omega) (d x b),fun p a=>Qg n p.2 (by have:=v.field_size p a;omega) (c p a)⟩ v.list.length n 0 (by omega) (by omega)
  rw [List.take_zero] at this
  exact this
theorem RX (n:Nat) (v:Vl) (h:v.size<n) (hs:v.size≤1000000000):BU n v=some v:=Qg n v h (Hy _ v (Nat.le_refl _) (by omega))
abbrev TF:=Int × ByteArray × Int × Ty × List Vl
theorem ZbN (rec:Ty→Option Ty) (n:Nat) (p:TF) (y:Ty) (hs:p.2.2.2.2.length≤1000000000) (hr:∀ v∈p.2.2.2.2,BU n v=some v):∀ (k m i:Nat),i+k=p.2.2.2.2.length→k<m→DU rec n p y m (p.2.2.2.2.take i) i=some (p.1,p.2.1,p.2.2.1,y,p.2.2.2.2)
 | k,0,i,_,h=>absurd h (Nat.not_lt_zero _)
 | 0,m+1,i,hi,_=>by
  rw [DU,Av,Ac (by omega)]
  simp only [Bool.false_eq_true,if_false,HU]
  rw [List.take_of_length_le (by omega)]
 | k+1,m+1,i,hi,hm=>by
  have a:i<p.2.2.2.2.length:=by omega
  rw [DU,Av,Ad a]
  simp only [if_true,AD a,Ab,hr _ (List.getElem_mem a)]
  rw [Ae (by rw [List.length_take];omega),Ae (AA (by omega))]
  have e:p.2.2.2.2.take i++[p.2.2.2.2[i]]=p.2.2.2.2.take (i+1):=by rw [List.take_succ_eq_append_getElem a]
  rw [e]
  exact ZbN rec n p y hs hr k m (i+1) (by omega) (by omega)
theorem Zex (rec:Ty→Option Ty) (n:Nat) (p:TF) (hs:p.2.2.2.2.length≤1000000000) (hn:p.2.2.2.2.length<n) (hr:∀ v∈p.2.2.2.2,BU n v=some v) (ht:rec p.2.2.2.1=some p.2.2.2.1):D8 rec n p=some p:=by
 rw [D8,ht]
 simp only [Ab]
 rw [Ae (by omega)]
 have:=ZbN rec n p p.2.2.2.1 hs hr p.2.2.2.2.length n 0 (by omega) hn
 rw [List.take_zero] at this
 exact this
theorem VD (rec:Ty→Option Ty) (n:Nat) (t:Ty) (hw:t.words.length≤1000000000) (hs:t.fields.length≤1000000000) (hr:∀ p∈t.fields,D8 rec n p=some p) (e:List Ty):∀ (k m i:Nat),i+k=t.fields.length→k<m→Hn rec n t m e (t.fields.take i) i=some (Ty.mk t.kind t.min t.max t.scale t.words e t.fields)
 | k,0,i,_,h=>absurd h (Nat.not_lt_zero _)
 | 0,m+1,i,hi,_=>by
  rw [Hn,Av,Ac (by omega)]
  simp only [Bool.false_eq_true,if_false,L8]
  rw [List.take_of_length_le (by omega),Ae (by omega)]
 | k+1,m+1,i,hi,hm=>by
  have a:i<t.fields.length:=by omega
  rw [Hn,Av,Ad a]
  simp only [if_true,AD a,Ab,hr _ (List.getElem_mem a)]
  rw [Ae (by rw [List.length_take];omega),Ae (AA (by omega))]
  have b:t.fields.take i++[t.fields[i]]=t.fields.take (i+1):=by rw [List.take_succ_eq_append_getElem a]
  rw [b]
  exact VD rec n t hw hs hr e k m (i+1) (by omega) (by omega)
theorem WC (rec:Ty→Option Ty) (n:Nat) (t:Ty) (hw:t.words.length≤1000000000) (hs:t.fields.length≤1000000000∧t.elem.length≤1000000000) (hn:t.fields.length<n) (hr:(∀ x∈t.elem,rec x=some x)∧∀ p∈t.fields,D8 rec n p=some p):∀ (k m i:Nat),i+k=t.elem.length→k<m→HY rec n t m (t.elem.take i) i=some t
 | k,0,i,_,h=>absurd h (Nat.not_lt_zero _)
 | 0,m+1,i,hi,_=>by
  rw [HY,Av,Ac (by omega)]
  simp only [Bool.false_eq_true,if_false,NB]
  rw [List.take_of_length_le (by omega),Ae (by omega)]
  have:=VD rec n t hw hs.1 hr.2 t.elem t.fields.length n 0 (by omega) hn
  rw [List.take_zero] at this
  exact this.trans (by rw [Ty.eta])
 | k+1,m+1,i,hi,hm=>by
  have a:i<t.elem.length:=by omega
  rw [HY,Av,Ad a]
  simp only [if_true,AD a,Ab,hr.1 _ (List.getElem_mem a)]
  rw [Ae (by rw [List.length_take];omega),Ae (AA (by omega))]
  have e:t.elem.take i++[t.elem[i]]=t.elem.take (i+1):=by rw [List.take_succ_eq_append_getElem a]
  rw [e]
  exact WC rec n t hw hs hn hr k m (i+1) (by omega) (by omega)
theorem RS:∀ (n:Nat) (t:Ty),t.size+1400000<n→t.size≤1000000000→t.ok→Hw n t=some t
 | 0,t,h,_,_=>absurd h (Nat.not_lt_zero _)
 | n+1,t,h,hs,hok=>by
  have i:=t.lens
  obtain ⟨j,k,d,e⟩:=t.ok_eq.1 hok
  rw [Hw,PD,Ae (by omega)]
  have:=WC (Hw n) n t (by omega) ⟨by omega,by omega⟩ (by omega) ⟨fun x a=>RS n x (by have:=t.elem_size x a;omega) (by have:=t.elem_size x a;omega) (d x a),fun p c=>by
   obtain ⟨_,f,g,b⟩:=e p c
   have:=t.field_size p c
   exact Zex _ n p (by omega) (by omega) (fun v hv=>RX n v (by have:=(b v hv).1;omega) (by have:=(b v hv).1;omega)) (RS n _ (by omega) (by omega) f)⟩ t.elem.length n 0 (by omega) (by omega)
  rw [List.take_zero] at this
  exact this
def LW (n:Nat)  (b:List Ty):Option ((List Ty)) :=
 some (b)
def Qz (n:Nat)  : Option ((List Ty)) :=
 some ([])
def Hh (n:Nat) (q:Ty):Nat→(List Ty)→Int→Option ((List Ty))
 | 0,_,_=>none
 | m+1,g,b =>
  if decide (b<(q.fields.length:Int)) then
   (Ci q.fields b).bind fun h =>
   if (g.length+1)*104≤140737488355328∧g.length+1≤4611686018427387904 then
    if B2 (b+1) then
     (Hh n q m) (g++([h.2.2.2.1])) (b+1)
    else none
   else none
  else
   LW n g
def Ir (n:Nat) (g:Ty) (b:Bool):Option ((List Ty)) :=
 if b then
  if 0≤(g.fields.length:Int)∧(g.fields.length:Int)*104≤140737488355328∧(g.fields.length:Int)≤4611686018427387904 then
   Hh n g n ([]) 0
  else none
 else
  Qz n 
def M5 (n:Nat) (b:Ty):Option ((List Ty)) :=
 if decide (b.kind=8) then
  some (b.elem)
 else
  if decide (b.kind=9) then
   Ir n b true
  else
   Ir n b (decide (b.kind=10))
theorem Zau (w0:World) (n:Nat) (B:List (List AV)) (Rw:List RowA) (L:List LoopA) (a0:Ty) (r:(List Ty)) (h:M5 n a0=some r) :
  ACalls Tryz.prog w0 51 [.agg (a0.cs)] ⟨B,Rw,L⟩ fun x st=>x = .list (r.map HE) .none∧st=⟨B,Rw,L⟩:=by
 rw [M5] at h
 refine hd [.tmp 2] Tryz.func51 Tryz.ntmps51 fun M0 W0 G t p b V k hs=>?_
 simp only [As]
 refine rg [1] hs ?_
 refine Au (fun e st=>Ck e st B Rw L [] [a0.cs] [] (Qz n  = some r)) ?_ ?_
 ·intro K4 O
  refine rg [1,7] hs ?_
  apply Ak
  refine rg [1,7,8] hs ?_
  refine AK h hs (fun hs h=>?_) (fun hs h=>?_)
  ·refine rg [2] hs ?_
   exact rt h hs b k
  refine Au (fun e st=>∃ (l:Bool),Ck e st B Rw L [(1,true,.box B.length 0),(12,true,.val (.bool l))] [a0.cs] [] (Ir n a0 l=some r)) ?_ ?_
  ·intro K11 z
   refine rg [1,7,12] hs ?_
   refine AK h hs (fun hs h=>?_) (fun hs h=>?_)
   ·refine sk [1,12] hs z ?_
    exact ⟨true,([]),Rw,ef hs,ef hs,k,h⟩
   refine rl [1,12] hs z ?_
   exact ⟨(decide (a0.kind=10)),([]),Rw,ef hs,ef hs,k,h⟩
  ·clear h;rintro e st ⟨l,Xk10,Rk10,rfl,rfl,k,h⟩
   rw [Ir] at h
   refine td G t p b k ?_
   refine AK h hs (fun hs h=>?_) (fun hs h=>?_)
   ·obtain ⟨U,h⟩:=Aj h
    have k:=k.make 7 0
    refine rg [1,3] hs ?_
    refine Au (fun e st=>∃ (i:List Ty) (j:Ev.Own),Ck e st B Rw L [(3,true,.list (i.map HE) j)] [a0.cs] [(7,i.length,j)] (LW n i=some r)) ?_ ?_
    ·intro K20 F
     refine rg [3,20,21,22] hs ?_
     apply Ak
     refine Az (fun m e st=>∃ (a:List Ty) (d:Int) (c:Ev.Own),Ck e st B Rw L [(3,true,.list (a.map HE) c),(20,true,.list (a0.fields.map CJ) .none),(21,true,.val (.int .i64 (a0.fields.length:Int))),(22,true,.val (.int .i64 d))] [a0.cs] [(7,a.length,c)] (Hh n a0 m a d=some r)) n ⟨([]),0,((.row Rk10.length)),([]),((Rk10++[.grow 0 7])),ef hs,ef hs,Owns.of_eq (k) F6,h⟩ ?_
     rintro ml22 e st ⟨a,d,c,Xl22,Rl22,rfl,rfl,k,h⟩ Ul22 Vl22
     cases ml22 with
     | zero=>cases h
     | succ ml22 =>
     rw [Hh] at h
     have K:=k.unders
     simp only [List.mem_cons,List.not_mem_nil,or_false,forall_eq_or_imp,forall_eq] at K
     refine td G t p b k ?_
     refine rg [3,20,21,22,23] hs ?_
     apply Ah;intro K24 v
     refine AK h hs (fun hs h=>?_) (fun hs h=>?_)
     rotate_left
     ·refine sx [3] hs F ?_
      exact ⟨a,c,([]),Rl22,ef hs,ef hs,Owns.of_eq (k) F6,h⟩
     refine sk [3,20,21,22] hs v ?_
     clear v
     apply Ah;intro K26 w
     apply Ak
     obtain ⟨o,E,h⟩:=bind_some h
     obtain ⟨N,J,D⟩:=Aw E
     have C:=Ax (f:=CJ) D
     have hs:=Aa C hs
     refine rg [3,5,20,21,22] hs ?_
     obtain ⟨u,h⟩:=Aj h
     obtain ⟨H,q,k,g⟩:=k.append (P:=Tryz.prog) Zd1 (by rw [Ze];rfl) (by decide) 1 u.1 u.2
     replace g:=fun (ys:List AV) B L o2=>g (a.map HE) ys B L o2 F6
     replace g:=fun (y:AV) B L o2=>g [y] B L o2 F6 ev
     try simp only [List.mem_singleton,List.mem_cons,List.not_mem_nil,or_false,forall_eq_or_imp,forall_eq,List.map_append,List.map_cons,List.map_nil,HM,HO,HN,HK,HI,Hk,FB,FD,HL,Ec,D7,Fv,Fp,Fj] at g
     have hs:=Aa g hs
     refine rl [3,20,21,22] hs w ?_
     clear w
     obtain ⟨Q,h⟩:=Aj h
     refine rl [3,20,21,22] hs (fun e s=>Vl22 ml22 e s (Nat.lt_succ_self _)) ?_
     exact ⟨(a++([o.2.2.2.1])),(d+1),H,([.val (.int .i64 o.1)::(.val (.string o.2.1)::(.val (.int .i64 o.2.2.1)::((o.2.2.2.1.cs)++([.list (o.2.2.2.2.map Bq) .none]))))]),q,ef hs,ef hs,Owns.of_eq (k) F6,h⟩
    ·clear h;rintro e st ⟨i,j,Xk19,Rk19,rfl,rfl,k,h⟩
     rw [LW] at h
     have K:=k.unders
     simp only [List.mem_cons,List.not_mem_nil,or_false,forall_eq_or_imp,forall_eq] at K
     refine td G t p b k ?_
     refine rg [2] hs ?_
     exact rt h hs b k
   refine sk [] hs O ?_
   exact ⟨([]),Rk10,ef hs,ef hs,k,h⟩
 ·clear h;rintro e st ⟨Xk3,Rk3,rfl,rfl,k,h⟩
  rw [Qz] at h
  refine td G t p b k ?_
  refine rg [2] hs ?_
  exact rt h hs b k
def XH (t:Ty):List Ty:=if t.kind=8 then t.elem else if t.kind=9∨t.kind=10 then t.fields.map fun p=>p.2.2.2.1 else []
theorem Zd2 (n:Nat) (t:Ty) (hs:t.fields.length≤1000000000):∀ (k m i:Nat) (x:List Ty),i+k=t.fields.length→k<m→x.length=i→Hh n t m x i=some (x++(t.fields.drop i).map fun p=>p.2.2.2.1)
 | k,0,i,_,_,h,_=>absurd h (Nat.not_lt_zero _)
 | 0,m+1,i,x,hi,_,_=>by
  rw [Hh,Av,Ac (by omega)]
  simp only [Bool.false_eq_true,if_false,LW]
  rw [List.drop_eq_nil_of_le (by omega),List.map_nil,List.append_nil]
 | k+1,m+1,i,x,hi,hm,hx=>by
  have a:i<t.fields.length:=by omega
  rw [Hh,Av,Ad a]
  simp only [if_true,AD a,Ab]
  rw [Ae (by omega),Ae (AA (by omega))]
  have ih:=Zd2 n t hs k m (i+1) (x++[t.fields[i].2.2.2.1]) (by omega) (by omega) (by simp [hx])
  rw [List.drop_eq_getElem_cons a,List.map_cons]
  rw [List.append_assoc] at ih
  exact ih
theorem Zcr (n:Nat) (t:Ty) (hn:t.fields.length<n) (hs:t.fields.length≤1000000000):M5 n t=some (XH t):=by
 have a:Ir n t true=some (t.fields.map fun p=>p.2.2.2.1):=by
  rw [Ir,Ae rfl,Ae (by omega)]
  have:=Zd2 n t hs t.fields.length n 0 [] (by omega) hn rfl
  rw [List.drop_zero,List.nil_append] at this
  exact this
 rw [M5,XH]
 by_cases h1:t.kind=8
 ·rw [Ae (Ad h1),Ae h1]
 rw [Af (by rw [decide_eq_true_eq];exact h1),Af h1]
 by_cases h2:t.kind=9
 ·rw [Ae (Ad h2),a,Ae (.inl h2)]
 rw [Af (by rw [decide_eq_true_eq];exact h2)]
 by_cases h3:t.kind=10
 ·rw [Ad h3,a,Ae (.inr h3)]
 ·rw [Ac h3,Af (by omega)];rfl
theorem Zep {a b:ByteArray} (h:a.data.toList=b.data.toList):a=b:=by
 cases a;cases b;simp at h;rw [h]
theorem Zba:∀ a b:List UInt8,Lib.compareBytes a b=0→a=b
 | [],[],_=>rfl
 | [],_::_,h=>absurd (show (-1:Int)=0 from h) (by decide)
 | _::_,[],h=>absurd (show (1:Int)=0 from h) (by decide)
 | x::a,y::b,h=>by
  simp only [Lib.compareBytes] at h
  by_cases h1:x<y
  ·simp [h1] at h
  ·by_cases h2:y<x
   ·simp [h1,h2] at h
   ·simp only [h1,h2,if_false] at h
    rw [Zba a b h]
    have:x=y:=by
     rw [UInt8.lt_iff_toNat_lt] at h1 h2
     exact UInt8.toNat_inj.1 (by omega)
    rw [this]
theorem Jd (a b:ByteArray):Eo a b=0↔a=b:=by
 unfold Eo
 constructor
 ·intro h;exact Zep (Zba _ _ h)
 ·rintro rfl;exact TX _
theorem D5 (x y:ByteArray):DR x y=true↔x=y:=by
 unfold DR
 rw [beq_iff_eq]
 exact ⟨Zep,fun h=>by rw [h]⟩
theorem Eb (x:ByteArray):DR x x=true:=(D5 x x).2 rfl
theorem S3 {α:Type} (l m:List α) (i:Nat) (h1:i<l.length) (h2:i<m.length):l.drop i=m.drop i↔l[i]=m[i]∧l.drop (i+1)=m.drop (i+1):=by
 rw [List.drop_eq_getElem_cons h1,List.drop_eq_getElem_cons h2,List.cons.injEq]
theorem UW {n:Nat} (h:n≤1048576):n≤maxLen:=by unfold maxLen;omega
theorem Vl.ext' {a b:Vl} (h1:a.kind=b.kind) (h2:a.int=b.int) (h3:a.scale=b.scale) (h4:a.text=b.text) (h5:a.list=b.list) (h6:a.fields=b.fields):a=b:=by
 rw [←a.eta,←b.eta,h1,h2,h3,h4,h5,h6]
theorem TF.ext' {p q:TF} (h1:p.1=q.1) (h2:p.2.1=q.2.1) (h3:p.2.2.1=q.2.2.1) (h4:p.2.2.2.1=q.2.2.2.1) (h5:p.2.2.2.2=q.2.2.2.2):p=q:=by
 obtain ⟨a,b,c,d,e⟩:=p
 obtain ⟨i,h,j,g,f⟩:=q
 simp only at h1 h2 h3 h4 h5
 rw [h1,h2,h3,h4,h5]
theorem Ty.ext' {a b:Ty} (h1:a.kind=b.kind) (h2:a.min=b.min) (h3:a.max=b.max) (h4:a.scale=b.scale) (h5:a.words=b.words) (h6:a.elem=b.elem) (h7:a.fields=b.fields):a=b:=by
 rw [←a.eta,←b.eta,h1,h2,h3,h4,h5,h6,h7]
end Go.Proofs.YtgpmlelfkjfbiaaGreatDoor
namespace Go.Ev
open Go
structure VStk (Rw rows:List RowA) (sz:Nat) (xs:List AV) (id ver:Nat):Prop where
 pre:Rw <+: rows
 calm:∀ r∈rows.drop Rw.length,∀ y∈r.cells,∀ a b c,Under a b c y
 own:Rw.length≤id
 len:∀ y∈xs,y.cells.length=sz
 at_:∃ rest,rows[id]? = some (.vec ver sz (xs.flatMap AV.cells++rest))
theorem VStk.under {Rw rows:List RowA} {sz:Nat} {xs:List AV} {id ver:Nat} (h:VStk Rw rows sz xs id ver):id<rows.length:=by
 obtain ⟨a,h⟩:=h.at_
 exact (Ag.1 h).1
theorem VStk.start (Rw:List RowA) {sz:Nat} {y:AV} {cs:List AV} (hc:cs=y.cells) (hy:y.cells.length=sz) (hu:∀ c∈y.cells,∀ a b d,Under a b d c):VStk Rw (Rw++[.vec 0 sz cs]) sz [y] Rw.length 0:=by
 subst hc
 refine ⟨List.prefix_append _ _,fun r f x e a b c=>?_,Nat.le_refl _,fun x e=>by rw [List.mem_singleton.1 e];exact hy,⟨[],by simp⟩⟩
 rw [List.drop_left] at f
 rw [List.mem_singleton.1 f] at e
 exact hu x e a b c
theorem VStk.take {Rw rows:List RowA} {sz:Nat} {xs:List AV} {id ver:Nat} (h:VStk Rw rows sz xs id ver) (k:Nat):VStk Rw rows sz (xs.take k) id ver:=by
 obtain ⟨a,b⟩:=h.at_
 refine ⟨h.pre,h.calm,h.own,fun y c=>h.len y (List.mem_of_mem_take c),⟨(xs.drop k).flatMap AV.cells++a,?_⟩⟩
 rw [b,←List.append_assoc,←List.flatMap_append,List.take_append_drop]
theorem VStk.of_eq {Rw rows:List RowA} {sz:Nat} {xs ys:List AV} {id ver:Nat} (h:VStk Rw rows sz xs id ver) (he:xs=ys):VStk Rw rows sz ys id ver:=he▸h
theorem VStk.append {P:Program} {t el:TypeId} {sz by8:Nat} {ag:Bool} {Rw rows:List RowA} {xs:List AV} {y:AV} {id ver:Nat} (h:VStk Rw rows sz xs id ver) (he:Kx P t=some (el,sz,ag,by8)) (hz:(CW P el).isSome=true) (hs:0<sz)
  (hb:(xs.length+1)*by8≤140737488355328) (hb2:xs.length+1≤4611686018427387904) (hy:y.cells.length=sz∧Bc y=true) (hp:y.pub=y) (hu:∀ c∈y.cells,∀ a b d,Under a b d c) :
  ∃ rows',VStk Rw rows' sz (xs++[y]) id (ver+1)∧∀ (B:List (List AV)) (L:List LoopA) (o2:Own),BC P ⟨B,rows,L⟩ t (.vec id ver 0 xs.length) (.list [y] o2)=(True,.vec id (ver+1) 0 (xs.length+1),⟨B,rows',L⟩):=by
 have p:=h.pre.length_le
 have k:=h.own
 obtain ⟨e,j⟩:=h.at_
 have i:=(Ag.1 j).1
 have l:(xs.flatMap AV.cells).length=xs.length*sz:=Pn h.len
 have m:CE P el sz by8 xs.length [y]=True:=by
  simp only [CE,hs,hz,List.length_singleton,hb,hb2,true_and,List.mem_singleton,forall_eq,hy,and_self]
 refine ⟨rows.set id (.vec (ver+1) sz (xs.flatMap AV.cells++y.cells)),⟨Ku h.pre k _,fun r g z f a b c=>?_,k,fun z hz=>?_,⟨[],by simp [i,List.flatMap_append]⟩⟩,fun B L o2=>?_⟩
 ·rw [List.drop_set,Af (by omega)] at g
  rcases List.mem_or_eq_of_mem_set g with g | rfl
  ·exact h.calm r g z f a b c
  ·rcases List.mem_append.1 f with q | q
   ·exact h.calm (.vec ver sz (xs.flatMap AV.cells++e)) (by
     rw [List.mem_iff_getElem?]
     exact ⟨id-Rw.length,by rw [List.getElem?_drop,Nat.add_sub_cancel' k];exact j⟩) z (List.mem_append_left _ q) a b c
   ·exact hu z q a b c
 ·rcases List.mem_append.1 hz with q | q
  ·exact h.len z q
  ·rw [List.mem_singleton.1 q];exact hy.1
 ·simp only [BC,he,A4,Ce,List.length_singleton,List.flatMap_cons,List.flatMap_nil,List.append_nil,hp,EW,j,if_true]
  rw [m]
  have n:(xs.flatMap AV.cells++e).take (xs.length*sz)=xs.flatMap AV.cells:=by rw [←l,List.take_left]
  have o:xs.length*sz≤(xs.flatMap AV.cells++e).length:=by rw [List.length_append];omega
  simp only [true_and,n,eq_true o,and_self]
end Go.Ev
namespace Go.Proofs.YtgpmlelfkjfbiaaGreatDoor
open Go Go.RowKit Go.Ev
def A6 (b:Int) (g:Int) (h:Int):Bool :=
 (decide (b<g))||(decide (h<b))
def A1 (b:Vl):Bool :=
 (((((!((((decide (1≤b.kind))&&(decide (b.kind≤3)))||(decide (b.kind=6)))||(decide (b.kind=7))))&&(!(decide (b.int=0))))||((!(decide (b.kind=3)))&&(!(decide (b.scale=0)))))||((!(((decide (b.kind=4))||(decide (b.kind=5)))||(decide (b.kind=10))))&&(!(DR b.text ((⟨#[]⟩:ByteArray))))))||((!((decide (b.kind=8))||(decide (b.kind=10))))&&(decide (0<(b.list.length:Int)))))||((!(decide (b.kind=9)))&&(decide (0<(b.fields.length:Int))))
@[go_sem] theorem vl_a6 (v:Vl) (x d:AV):(v.cs++[x]).getD 6 d=x:=by cases v;rfl
@[go_sem] theorem Zin (v:Vl) (a b c d e f g:AV):Dw [a,b,c,d,e,f,g] 0 v.cs=v.cs++[g]:=by
 cases v;rfl
@[go_sem] theorem Zix (v:Vl) (g x:AV):Dw (v.cs++[g]) 6 [x]=v.cs++[x]:=by
 cases v;rfl
def BJ (b:Vl):Bool :=
 (((((decide (b.kind=0))&&(decide (b.int=0)))&&(decide (b.scale=0)))&&(DR b.text ((⟨#[]⟩:ByteArray))))&&(decide ((b.list.length:Int)=0)))&&(decide ((b.fields.length:Int)=0))
theorem YX (w0:World) (B:List (List AV)) (Rw:List RowA) (L:List LoopA) (a0:Vl) (r:Bool) (h:BJ a0=r) :
  ACalls Tryz.prog w0 62 [.agg (a0.cs)] ⟨B,Rw,L⟩ fun x st=>x = .val (.bool r)∧st=⟨B,Rw,L⟩:=by
 rw [BJ] at h
 refine hd [.tmp 2] Tryz.func62 Tryz.ntmps62 fun M0 W0 f b d a e c hs=>?_
 simp only [As]
 refine rg [1] hs ?_
 refine rg [2] hs ?_
 exact rT h hs a c
theorem NM (w0:World) (B:List (List AV)) (Rw:List RowA) (L:List LoopA) (a0:Vl) :
  ACalls Tryz.prog w0 62 [.agg (a0.cs)] ⟨B,Rw,L⟩ fun x st=>x = .val (.bool (BJ a0))∧st=⟨B,Rw,L⟩:=YX w0 B Rw L a0 _ rfl
def B6 (b:Int) (g:Int) (h:Int):Int :=
 if (decide (b<g))||(decide (h<b)) then
  2
 else
  0
theorem Xs (w0:World) (B:List (List AV)) (Rw:List RowA) (L:List LoopA) (a0:Int) (a1:Int) (a2:Int) (r:Int) (h:B6 a0 a1 a2=r) :
  ACalls Tryz.prog w0 109 [.val (.int .i64 a0),.val (.int .i64 a1),.val (.int .i64 a2)] ⟨B,Rw,L⟩ fun x st=>x = .val (.int .i64 r)∧st=⟨B,Rw,L⟩:=by
 rw [B6] at h
 refine hd [.tmp 6] Tryz.func109 Tryz.ntmps109 fun M0 W0 g d e a f c hs=>?_
 simp only [As]
 refine rg [0,1,2] hs ?_
 apply Ah;intro K2 b
 refine rg [14] hs ?_
 refine AK h hs (fun hs h=>?_) (fun hs h=>?_)
 ·refine rg [6] hs ?_
  exact rT h hs a c
 refine sk [] hs b ?_
 clear b
 refine rg [6] hs ?_
 exact rT h hs a c
theorem GH (w0:World) (B:List (List AV)) (Rw:List RowA) (L:List LoopA) (a0:Int) (a1:Int) (a2:Int) :
  ACalls Tryz.prog w0 109 [.val (.int .i64 a0),.val (.int .i64 a1),.val (.int .i64 a2)] ⟨B,Rw,L⟩ fun x st=>x = .val (.int .i64 (B6 a0 a1 a2))∧st=⟨B,Rw,L⟩:=Xs w0 B Rw L a0 a1 a2 _ rfl
def FV (b:Vl):Int :=
 B6 b.int 0 1
theorem Yf (w0:World) (B:List (List AV)) (Rw:List RowA) (L:List LoopA) (a0:Vl) (r:Int) (h:FV a0=r) :
  ACalls Tryz.prog w0 108 [.agg (a0.cs)] ⟨B,Rw,L⟩ fun x st=>x = .val (.int .i64 r)∧st=⟨B,Rw,L⟩:=by
 rw [FV] at h
 refine hd [.tmp 2] Tryz.func108 Tryz.ntmps108 fun M0 W0 g c e a f d hs=>?_
 simp only [As]
 refine rg [1] hs ?_
 refine rc 2 [2] hs ?_;intro K2 b
 refine Ai _ (GH w0 _ _ _ a0.int 0 1) (hv hs) ?_
 refine ne hs b ?_
 clear b
 exact rT h hs a d
theorem V5 (w0:World) (B:List (List AV)) (Rw:List RowA) (L:List LoopA) (a0:Vl) :
  ACalls Tryz.prog w0 108 [.agg (a0.cs)] ⟨B,Rw,L⟩ fun x st=>x = .val (.int .i64 (FV a0))∧st=⟨B,Rw,L⟩:=Yf w0 B Rw L a0 _ rfl
def Dj (h:Int) (b:Int) (g:Int):Int :=
 if decide (b<h) then
  g
 else
  0
theorem Zb0 (w0:World) (B:List (List AV)) (Rw:List RowA) (L:List LoopA) (a0:Int) (a1:Int) (a2:Int) (r:Int) (h:Dj a0 a1 a2=r) :
  ACalls Tryz.prog w0 114 [.val (.int .i64 a0),.val (.int .i64 a1),.val (.int .i64 a2)] ⟨B,Rw,L⟩ fun x st=>x = .val (.int .i64 r)∧st=⟨B,Rw,L⟩:=by
 rw [Dj] at h
 refine hd [.tmp 6] Tryz.func114 Tryz.ntmps114 fun M0 W0 g d e a f c hs=>?_
 simp only [As]
 refine rg [0,1,2] hs ?_
 apply Ah;intro K2 b
 refine rg [2,9] hs ?_
 refine AK h hs (fun hs h=>?_) (fun hs h=>?_)
 ·refine rg [6] hs ?_
  exact rT h hs a c
 refine sk [] hs b ?_
 clear b
 refine rg [6] hs ?_
 exact rT h hs a c
theorem KZ (w0:World) (B:List (List AV)) (Rw:List RowA) (L:List LoopA) (a0:Int) (a1:Int) (a2:Int) :
  ACalls Tryz.prog w0 114 [.val (.int .i64 a0),.val (.int .i64 a1),.val (.int .i64 a2)] ⟨B,Rw,L⟩ fun x st=>x = .val (.int .i64 (Dj a0 a1 a2))∧st=⟨B,Rw,L⟩:=Zb0 w0 B Rw L a0 a1 a2 _ rfl
def IK (b:Vl):Option Int :=
 if b.text.size≤maxLen then
  if !(EU b.text) then
   some (12)
  else
   if decide ((b.list.length:Int)=0) then
    some (4)
   else
    some (Dj (b.list.length:Int) 1 3)
 else none
theorem V4 (w0:World) (B:List (List AV)) (Rw:List RowA) (L:List LoopA) (a0:Vl) (r:Int) (h:IK a0=some r) :
  ACalls Tryz.prog w0 121 [.agg (a0.cs)] ⟨B,Rw,L⟩ fun x st=>x = .val (.int .i64 r)∧st=⟨B,Rw,L⟩:=by
 rw [IK] at h
 refine hd [.tmp 2] Tryz.func121 Tryz.ntmps121 fun M0 W0 k g i a j f hs=>?_
 simp only [As]
 refine rg [1] hs ?_
 apply Ah;intro K2 d
 apply Ak
 obtain ⟨e,h⟩:=Aj h
 refine rc 2 [1,3] hs ?_;intro K3 c
 refine Ai _ (SC w0 _ _ _ a0.text e) (hv hs) ?_
 refine ne hs c ?_
 clear c
 refine AK h hs (fun hs h=>?_) (fun hs h=>?_)
 ·refine rg [2] hs ?_
  exact rt h hs a f
 refine rg [1,8] hs ?_
 refine AK h hs (fun hs h=>?_) (fun hs h=>?_)
 ·refine rg [2] hs ?_
  exact rt h hs a f
 refine sk [1] hs d ?_
 clear d
 refine rc 2 [2] hs ?_;intro K10 b
 refine Ai _ (KZ w0 _ _ _ (a0.list.length:Int) 1 3) (hv hs) ?_
 refine ne hs b ?_
 clear b
 exact rt h hs a f
def F3 (b:Vl):Int :=
 B6 b.int ((-999999999999999)) 999999999999999
theorem Xn (w0:World) (B:List (List AV)) (Rw:List RowA) (L:List LoopA) (a0:Vl) (r:Int) (h:F3 a0=r) :
  ACalls Tryz.prog w0 110 [.agg (a0.cs)] ⟨B,Rw,L⟩ fun x st=>x = .val (.int .i64 r)∧st=⟨B,Rw,L⟩:=by
 rw [F3] at h
 refine hd [.tmp 2] Tryz.func110 Tryz.ntmps110 fun M0 W0 g c e a f d hs=>?_
 simp only [As]
 refine rg [1] hs ?_
 refine rc 2 [2] hs ?_;intro K2 b
 refine Ai _ (GH w0 _ _ _ a0.int ((-999999999999999)) 999999999999999) (hv hs) ?_
 refine ne hs b ?_
 clear b
 exact rT h hs a d
theorem Wg (w0:World) (B:List (List AV)) (Rw:List RowA) (L:List LoopA) (a0:Vl) :
  ACalls Tryz.prog w0 110 [.agg (a0.cs)] ⟨B,Rw,L⟩ fun x st=>x = .val (.int .i64 (F3 a0))∧st=⟨B,Rw,L⟩:=Xn w0 B Rw L a0 _ rfl
def NI (n:Nat)  : Option Int :=
 some (0)
def Ik (n:Nat) (h:List Int):Nat→Int→Option Int
 | 0,_=>none
 | m+1,b =>
  if decide (b<(h.length:Int)) then
   (Ci h b).bind fun g =>
   if !(decide (g=0)) then
    some (g)
   else
    if B2 (b+1) then
     (Ik n h m) (b+1)
    else none
  else
   NI n 
def MQ (n:Nat) (b:List Int):Option Int :=
 Ik n b n 0
theorem Z5 (w0:World) (n:Nat) (B:List (List AV)) (Rw:List RowA) (L:List LoopA) (a0:List Int) (r:Int) (h:MQ n a0=some r) :
  ACalls Tryz.prog w0 112 [.list (a0.map YP) .none] ⟨B,Rw,L⟩ fun x st=>x = .val (.int .i64 r)∧st=⟨B,Rw,L⟩:=by
 rw [MQ] at h
 refine hd [.tmp 2] Tryz.func112 Tryz.ntmps112 fun M0 W0 v o j b y c hs=>?_
 simp only [As]
 refine rg [0] hs ?_
 refine Au (fun e st=>Ck e st B Rw L [] [] [] (NI n  = some r)) ?_ ?_
 ·intro K4 t
  refine rg [5,6,7] hs ?_
  apply Ak
  refine Az (fun m e st=>∃ (a:Int),Ck e st B Rw L [(5,true,.list (a0.map YP) .none),(6,true,.val (.int .i64 (a0.length:Int))),(7,true,.val (.int .i64 a))] [] [] (Ik n a0 m a=some r)) n ⟨0,([]),Rw,ef hs,ef hs,c,h⟩ ?_
  rintro ml6 e st ⟨a,Xl6,Rl6,rfl,rfl,c,h⟩ Ul6 Vl6
  cases ml6 with
  | zero=>cases h
  | succ ml6 =>
  rw [Ik] at h
  refine td v o j b c ?_
  refine rg [5,6,7,8] hs ?_
  apply Ah;intro K8 k
  refine AK h hs (fun hs h=>?_) (fun hs h=>?_)
  rotate_left
  ·refine sx [] hs t ?_
   exact ⟨([]),Rl6,ef hs,ef hs,c,h⟩
  refine sk [5,6,7] hs k ?_
  clear k
  apply Ah;intro K10 d
  apply Ak
  obtain ⟨w,l,h⟩:=bind_some h
  obtain ⟨p,q,g⟩:=Aw l
  have i:=Ax (f:=YP) g
  have hs:=Aa i hs
  refine rg [4,5,6,7] hs ?_
  refine rg [4,5,6,7,12] hs ?_
  refine AK h hs (fun hs h=>?_) (fun hs h=>?_)
  ·refine rg [2] hs ?_
   exact rt h hs b c
  refine sk [5,6,7] hs d ?_
  clear d
  obtain ⟨u,h⟩:=Aj h
  refine rl [5,6,7] hs (fun e s=>Vl6 ml6 e s (Nat.lt_succ_self _)) ?_
  exact ⟨(a+1),([]),Rl6,ef hs,ef hs,c,h⟩
 ·clear h;rintro e st ⟨Xk3,Rk3,rfl,rfl,c,h⟩
  rw [NI] at h
  refine td v o j b c ?_
  refine rg [2] hs ?_
  exact rt h hs b c
def JW (n:Nat) (b:Vl):Option Int :=
 (MQ n ([B6 b.int ((-999999999999999)) 999999999999999,B6 b.scale 0 12])).bind fun g =>
 some (g)
theorem XX (w0:World) (n:Nat) (B:List (List AV)) (Rw:List RowA) (L:List LoopA) (a0:Vl) (r:Int) (h:JW n a0=some r) :
  ACalls Tryz.prog w0 111 [.agg (a0.cs)] ⟨B,Rw,L⟩ fun x st=>x = .val (.int .i64 r)∧st=⟨B,Rw,L⟩:=by
 rw [JW] at h
 refine hd [.tmp 2] Tryz.func111 Tryz.ntmps111 fun M0 W0 i d f a g e hs=>?_
 simp only [As]
 refine rg [1] hs ?_
 obtain ⟨j,c,h⟩:=bind_some h
 apply Ah;intro K2 b
 refine dk 9 4 1 [2] hs HD ?_
 refine Ai _ (GH w0 _ _ _ a0.int ((-999999999999999)) 999999999999999) (hv hs) ?_
 refine nc hs ?_
 refine Ai _ (GH w0 _ _ _ a0.scale 0 12) (hv hs) ?_
 refine nc hs ?_
 refine Ai _ (Z5 w0 n _ _ _ ([B6 a0.int ((-999999999999999)) 999999999999999,B6 a0.scale 0 12]) _ c) (hv hs) ?_
 refine dn hs b ?_
 clear b
 exact rt h hs a e
def Hv  (b:Int):Option Int :=
 some (b)
def JG (b:Vl):Option Int :=
 if decide ((Dj (b.text.size:Int) 1024 5)=0) then
  if b.text.size≤maxLen then
   if !(Lib.validD b.text.data.toList) then
    Hv  16
   else
    Hv  (Dj (b.text.size:Int) 1024 5)
  else none
 else
  Hv  (Dj (b.text.size:Int) 1024 5)
theorem Xo (w0:World) (hT:Lib.Utf8Tabs 0 1 w0) (B:List (List AV)) (Rw:List RowA) (L:List LoopA) (a0:Vl) (r:Int) (h:JG a0=some r) :
  ACalls Tryz.prog w0 113 [.agg (a0.cs)] ⟨B,Rw,L⟩ fun x st=>x = .val (.int .i64 r)∧st=⟨B,Rw,L⟩:=by
 rw [JG] at h
 refine hd [.tmp 2] Tryz.func113 Tryz.ntmps113 fun M0 W0 l j k b m f hs=>?_
 simp only [As]
 refine rg [1] hs ?_
 refine rc 2 [1,3] hs ?_;intro K2 g
 refine Ai _ (KZ w0 _ _ _ (a0.text.size:Int) 1024 5) (hv hs) ?_
 refine ne hs g ?_
 clear g
 refine Au (fun e st=>∃ (a:Int),Ck e st B Rw L [(3,true,.val (.int .i64 a))] [a0.cs] [] (Hv  a=some r)) ?_ ?_
 ·intro K5 d
  apply Ah;intro K6 c
  rcases Bool.eq_false_or_eq_true (decide ((Dj (a0.text.size:Int) 1024 5)=0)) with hf7 | hf7
  ·replace h:=AY h hf7
   obtain ⟨i,h⟩:=Aj h
   have hs:=Aa hf7 hs
   refine rk 2 [3,15] hs ?_
   refine Ai _ (Uj w0 _ _ _ hT a0.text i) (hv hs) ?_
   refine ne hs c ?_
   clear c
   refine AK h hs (fun hs h=>?_) (fun hs h=>?_)
   ·refine rl [3] hs d ?_
    exact ⟨16,([]),Rw,ef hs,ef hs,f,h⟩
   refine sk [3] hs d ?_
   exact ⟨(Dj (a0.text.size:Int) 1024 5),([]),Rw,ef hs,ef hs,f,h⟩
  ·replace h:=AZ h hf7
   have hs:=Aa hf7 hs
   refine rk 2 [3,15] hs ?_
   refine AC ?_
   refine ne hs c ?_
   clear c
   refine A7 false ev (ef hs) (fun hb10=>by cases hb10) (fun hb10=>?_)
   refine sk [3] hs d ?_
   exact ⟨(Dj (a0.text.size:Int) 1024 5),([]),Rw,ef hs,ef hs,f,h⟩
 ·clear h;rintro e st ⟨a,Xk4,Rk4,rfl,rfl,f,h⟩
  rw [Hv] at h
  refine td l j k b f ?_
  refine rg [2] hs ?_
  exact rt h hs b f
def Ge (b:Vl):Int :=
 Dj (b.text.size:Int) 1024 5
theorem Yw (w0:World) (B:List (List AV)) (Rw:List RowA) (L:List LoopA) (a0:Vl) (r:Int) (h:Ge a0=r) :
  ACalls Tryz.prog w0 116 [.agg (a0.cs)] ⟨B,Rw,L⟩ fun x st=>x = .val (.int .i64 r)∧st=⟨B,Rw,L⟩:=by
 rw [Ge] at h
 refine hd [.tmp 2] Tryz.func116 Tryz.ntmps116 fun M0 W0 g c e a f d hs=>?_
 simp only [As]
 refine rg [1] hs ?_
 refine rc 2 [2] hs ?_;intro K2 b
 refine Ai _ (KZ w0 _ _ _ (a0.text.size:Int) 1024 5) (hv hs) ?_
 refine ne hs b ?_
 clear b
 exact rT h hs a d
theorem V3 (w0:World) (B:List (List AV)) (Rw:List RowA) (L:List LoopA) (a0:Vl) :
  ACalls Tryz.prog w0 116 [.agg (a0.cs)] ⟨B,Rw,L⟩ fun x st=>x = .val (.int .i64 (Ge a0))∧st=⟨B,Rw,L⟩:=Yw w0 B Rw L a0 _ rfl
def F9 (b:Vl):Int :=
 B6 b.int ((-719162)) 2932896
theorem Yp (w0:World) (B:List (List AV)) (Rw:List RowA) (L:List LoopA) (a0:Vl) (r:Int) (h:F9 a0=r) :
  ACalls Tryz.prog w0 117 [.agg (a0.cs)] ⟨B,Rw,L⟩ fun x st=>x = .val (.int .i64 r)∧st=⟨B,Rw,L⟩:=by
 rw [F9] at h
 refine hd [.tmp 2] Tryz.func117 Tryz.ntmps117 fun M0 W0 g c e a f d hs=>?_
 simp only [As]
 refine rg [1] hs ?_
 refine rc 2 [2] hs ?_;intro K2 b
 refine Ai _ (GH w0 _ _ _ a0.int ((-719162)) 2932896) (hv hs) ?_
 refine ne hs b ?_
 clear b
 exact rT h hs a d
theorem V7 (w0:World) (B:List (List AV)) (Rw:List RowA) (L:List LoopA) (a0:Vl) :
  ACalls Tryz.prog w0 117 [.agg (a0.cs)] ⟨B,Rw,L⟩ fun x st=>x = .val (.int .i64 (F9 a0))∧st=⟨B,Rw,L⟩:=Yp w0 B Rw L a0 _ rfl
def F7 (b:Vl):Int :=
 B6 b.int ((-62135596800000)) 253402300799999
theorem Yi (w0:World) (B:List (List AV)) (Rw:List RowA) (L:List LoopA) (a0:Vl) (r:Int) (h:F7 a0=r) :
  ACalls Tryz.prog w0 118 [.agg (a0.cs)] ⟨B,Rw,L⟩ fun x st=>x = .val (.int .i64 r)∧st=⟨B,Rw,L⟩:=by
 rw [F7] at h
 refine hd [.tmp 2] Tryz.func118 Tryz.ntmps118 fun M0 W0 g c e a f d hs=>?_
 simp only [As]
 refine rg [1] hs ?_
 refine rc 2 [2] hs ?_;intro K2 b
 refine Ai _ (GH w0 _ _ _ a0.int ((-62135596800000)) 253402300799999) (hv hs) ?_
 refine ne hs b ?_
 clear b
 exact rT h hs a d
theorem V8 (w0:World) (B:List (List AV)) (Rw:List RowA) (L:List LoopA) (a0:Vl) :
  ACalls Tryz.prog w0 118 [.agg (a0.cs)] ⟨B,Rw,L⟩ fun x st=>x = .val (.int .i64 (F7 a0))∧st=⟨B,Rw,L⟩:=Yi w0 B Rw L a0 _ rfl
def FZ (b:Vl):Int :=
 Dj (b.list.length:Int) 256 9
theorem Yo (w0:World) (B:List (List AV)) (Rw:List RowA) (L:List LoopA) (a0:Vl) (r:Int) (h:FZ a0=r) :
  ACalls Tryz.prog w0 119 [.agg (a0.cs)] ⟨B,Rw,L⟩ fun x st=>x = .val (.int .i64 r)∧st=⟨B,Rw,L⟩:=by
 rw [FZ] at h
 refine hd [.tmp 2] Tryz.func119 Tryz.ntmps119 fun M0 W0 g c e a f d hs=>?_
 simp only [As]
 refine rg [1] hs ?_
 refine rc 2 [2] hs ?_;intro K2 b
 refine Ai _ (KZ w0 _ _ _ (a0.list.length:Int) 256 9) (hv hs) ?_
 refine ne hs b ?_
 clear b
 exact rT h hs a d
theorem V2 (w0:World) (B:List (List AV)) (Rw:List RowA) (L:List LoopA) (a0:Vl) :
  ACalls Tryz.prog w0 119 [.agg (a0.cs)] ⟨B,Rw,L⟩ fun x st=>x = .val (.int .i64 (FZ a0))∧st=⟨B,Rw,L⟩:=Yo w0 B Rw L a0 _ rfl
def Kv (n:Nat)  : Option Int :=
 some (0)
def EB (n:Nat) (h:Vl):Nat→Int→Option Int
 | 0,_=>none
 | m+1,b =>
  if decide (b<(h.fields.length:Int)) then
   (Ci h.fields b).bind fun g =>
   if g.1.size≤maxLen then
    if !(EU g.1) then
     some (12)
    else
     if decide (0<b) then
      if B2 (b-1) then
       (Ci h.fields (b-1)).bind fun q =>
       if DR g.1 q.1 then
        some (7)
       else
        if B2 (b-1) then
         if WL g.1 q.1 then
          some (24)
         else
          if B2 (b+1) then
           (EB n h m) (b+1)
          else none
        else none
      else none
     else
      if B2 (b+1) then
       (EB n h m) (b+1)
      else none
   else none
  else
   Kv n 
def JC (n:Nat) (b:Vl):Option Int :=
 if !(decide ((Dj (b.fields.length:Int) 64 9)=0)) then
  some (Dj (b.fields.length:Int) 64 9)
 else
  EB n b n 0
theorem Yl (w0:World) (n:Nat) (B:List (List AV)) (Rw:List RowA) (L:List LoopA) (a0:Vl) (r:Int) (h:JC n a0=some r) :
  ACalls Tryz.prog w0 120 [.agg (a0.cs)] ⟨B,Rw,L⟩ fun x st=>x = .val (.int .i64 r)∧st=⟨B,Rw,L⟩:=by
 rw [JC] at h
 refine hd [.tmp 2] Tryz.func120 Tryz.ntmps120 fun M0 W0 N w t b Q g hs=>?_
 simp only [As]
 refine rg [1] hs ?_
 apply Ah;intro K2 q
 refine rc 2 [1,3] hs ?_;intro K3 v
 refine Ai _ (KZ w0 _ _ _ (a0.fields.length:Int) 64 9) (hv hs) ?_
 refine ne hs v ?_
 clear v
 refine rg [1,3,11] hs ?_
 refine AK h hs (fun hs h=>?_) (fun hs h=>?_)
 ·refine rg [2] hs ?_
  exact rt h hs b g
 refine sk [1] hs q ?_
 clear q
 refine Au (fun e st=>Ck e st B Rw L [] [a0.cs] [] (Kv n  = some r)) ?_ ?_
 ·intro K9 F
  refine rg [1,14,15,16] hs ?_
  apply Ak
  refine Az (fun m e st=>∃ (a:Int),Ck e st B Rw L [(1,true,.box B.length 0),(14,true,.list (a0.fields.map Cf) .none),(15,true,.val (.int .i64 (a0.fields.length:Int))),(16,true,.val (.int .i64 a))] [a0.cs] [] (EB n a0 m a=some r)) n ⟨0,([]),Rw,ef hs,ef hs,g,h⟩ ?_
  rintro ml11 e st ⟨a,Xl11,Rl11,rfl,rfl,g,h⟩ Ul11 Vl11
  cases ml11 with
  | zero=>cases h
  | succ ml11 =>
  rw [EB] at h
  refine td N w t b g ?_
  refine rg [1,14,15,16,17] hs ?_
  apply Ah;intro K13 j
  refine AK h hs (fun hs h=>?_) (fun hs h=>?_)
  rotate_left
  ·refine sx [] hs F ?_
   exact ⟨([]),Rl11,ef hs,ef hs,g,h⟩
  refine sk [1,14,15,16] hs j ?_
  clear j
  apply Ah;intro K15 d
  apply Ak
  obtain ⟨i,u,h⟩:=bind_some h
  obtain ⟨D,E,p⟩:=Aw u
  have o:=Ax (f:=Cf) p
  have hs:=Aa o hs
  refine rg [1,4,5,14,15,16] hs ?_
  apply Ak
  obtain ⟨y,h⟩:=Aj h
  refine rc 2 [1,4,5,14,15,16,21] hs ?_;intro K18 k
  refine Ai _ (SC w0 _ _ _ i.1 y) (hv hs) ?_
  refine ne hs k ?_
  clear k
  refine AK h hs (fun hs h=>?_) (fun hs h=>?_)
  ·refine rg [2] hs ?_
   exact rt h hs b g
  apply Ah;intro K22 c
  rcases Bool.eq_false_or_eq_true (decide (0<a)) with hf23 | hf23
  ·replace h:=AY h hf23
   obtain ⟨H,h⟩:=Aj h
   obtain ⟨O,z,C,l,h⟩:=ix Cf h
   have hs:=Aa hf23 hs
   have hs:=Aa l hs
   refine dl 15 1 1 [1,4,5,14,15,16,26] hs HD c ?_
   clear c
   refine AK h hs (fun hs h=>?_) (fun hs h=>?_)
   ·refine rg [2] hs ?_
    exact rt h hs b g
   obtain ⟨G,h⟩:=Aj h
   refine dg 15 1 1 [1,14,15,16,41] hs HD ?_
   refine AK h hs (fun hs h=>?_) (fun hs h=>?_)
   ·refine rg [2] hs ?_
    exact rt h hs b g
   refine sk [1,14,15,16] hs d ?_
   clear d
   obtain ⟨K,h⟩:=Aj h
   refine rl [1,14,15,16] hs (fun e s=>Vl11 ml11 e s (Nat.lt_succ_self _)) ?_
   exact ⟨(a+1),([.val (.string i.1)::(i.2.cs)]),Rl11,ef hs,ef hs,g,h⟩
  ·replace h:=AZ h hf23
   have hs:=Aa hf23 hs
   refine dl 15 1 1 [1,4,5,14,15,16,26] hs HD c ?_
   clear c
   refine A7 false ev (ef hs) (fun hb33=>by cases hb33) (fun hb33=>?_)
   refine dg 15 1 1 [1,14,15,16,41] hs HD ?_
   refine A7 false ev (ef hs) (fun hb35=>by cases hb35) (fun hb35=>?_)
   refine sk [1,14,15,16] hs d ?_
   clear d
   obtain ⟨J,h⟩:=Aj h
   refine rl [1,14,15,16] hs (fun e s=>Vl11 ml11 e s (Nat.lt_succ_self _)) ?_
   exact ⟨(a+1),([.val (.string i.1)::(i.2.cs)]),Rl11,ef hs,ef hs,g,h⟩
 ·clear h;rintro e st ⟨Xk8,Rk8,rfl,rfl,g,h⟩
  rw [Kv] at h
  refine td N w t b g ?_
  refine rg [2] hs ?_
  exact rt h hs b g
def MV (b:Vl):Bool :=
 (((((((((decide (b.kind=1))||(decide (b.kind=2)))||(decide (b.kind=6)))||(decide (b.kind=7)))||(decide (b.kind=3)))||(decide (b.int=0)))&&((decide (b.kind=3))||(decide (b.scale=0))))&&((((decide (b.kind=4))||(decide (b.kind=5)))||(decide (b.kind=10)))||(DR b.text ((⟨#[]⟩:ByteArray)))))&&(((decide (b.kind=8))||(decide (b.kind=10)))||(decide ((b.list.length:Int)=0))))&&((decide (b.kind=9))||(decide ((b.fields.length:Int)=0)))
theorem ZcA (w0:World) (B:List (List AV)) (Rw:List RowA) (L:List LoopA) (a0:Vl) (r:Bool) (h:MV a0=r) :
  ACalls Tryz.prog w0 63 [.agg (a0.cs)] ⟨B,Rw,L⟩ fun x st=>x = .val (.bool r)∧st=⟨B,Rw,L⟩:=by
 rw [MV] at h
 refine hd [.tmp 2] Tryz.func63 Tryz.ntmps63 fun M0 W0 f b d a e c hs=>?_
 simp only [As]
 refine rg [1] hs ?_
 refine rg [1,3] hs ?_
 refine rg [1,3,4] hs ?_
 refine rg [1,3,4,5] hs ?_
 refine rg [2] (al hs) ?_
 exact rT h hs a c
theorem Zat (w0:World) (B:List (List AV)) (Rw:List RowA) (L:List LoopA) (a0:Vl) :
  ACalls Tryz.prog w0 63 [.agg (a0.cs)] ⟨B,Rw,L⟩ fun x st=>x = .val (.bool (MV a0))∧st=⟨B,Rw,L⟩:=ZcA w0 B Rw L a0 _ rfl
def B8 (n:Nat)  : List (Nat × Vl)→Int→Option Int
 | [],b3_r7 =>
  some (0)
 | p_r7::rest,b3_r7 =>
  if B2 (b3_r7+1) then
   if decide (4096<(b3_r7+1)) then
    some (9)
   else
    if decide (8<(p_r7.1:Int)) then
     some (23)
    else
     if BJ p_r7.2 then
      some (19)
     else
      if (decide (p_r7.2.kind<1))||(decide (10<p_r7.2.kind)) then
       some (11)
      else
       if !(MV p_r7.2) then
        some (3)
       else
        if decide (p_r7.2.kind=0) then
         none
        else
         if decide (p_r7.2.kind=1) then
          if !(decide ((FV p_r7.2)=0)) then
           some (FV p_r7.2)
          else
           (B8 n rest) (b3_r7+1)
         else
          if decide (p_r7.2.kind=2) then
           if !(decide ((F3 p_r7.2)=0)) then
            some (F3 p_r7.2)
           else
            (B8 n rest) (b3_r7+1)
          else
           if decide (p_r7.2.kind=3) then
            (JW n p_r7.2).bind fun g =>
            if !(decide (g=0)) then
             some (g)
            else
             (B8 n rest) (b3_r7+1)
           else
            if decide (p_r7.2.kind=4) then
             (JG p_r7.2).bind fun b =>
             if !(decide (b=0)) then
              some (b)
             else
              (B8 n rest) (b3_r7+1)
            else
             if decide (p_r7.2.kind=5) then
              if !(decide ((Ge p_r7.2)=0)) then
               some (Ge p_r7.2)
              else
               (B8 n rest) (b3_r7+1)
             else
              if decide (p_r7.2.kind=6) then
               if !(decide ((F9 p_r7.2)=0)) then
                some (F9 p_r7.2)
               else
                (B8 n rest) (b3_r7+1)
              else
               if decide (p_r7.2.kind=7) then
                if !(decide ((F7 p_r7.2)=0)) then
                 some (F7 p_r7.2)
                else
                 (B8 n rest) (b3_r7+1)
               else
                if decide (p_r7.2.kind=8) then
                 if !(decide ((FZ p_r7.2)=0)) then
                  some (FZ p_r7.2)
                 else
                  (B8 n rest) (b3_r7+1)
                else
                 if decide (p_r7.2.kind=9) then
                  (JC n p_r7.2).bind fun h =>
                  if !(decide (h=0)) then
                   some (h)
                  else
                   (B8 n rest) (b3_r7+1)
                 else
                  if decide (p_r7.2.kind=10) then
                   (IK p_r7.2).bind fun q =>
                   if !(decide (q=0)) then
                    some (q)
                   else
                    (B8 n rest) (b3_r7+1)
                  else
                   none
  else none
def FH (n:Nat) (b:Vl):Option Int :=
 if b.depth<4611686018427387904∧b.wide=true then
  B8 n (Ff 1 b) 0
 else none
theorem Nr (w0:World) (hT:Lib.Utf8Tabs 0 1 w0) (n:Nat) (B:List (List AV)) (Rw:List RowA) (L:List LoopA) (a0:Vl) (r:Int) (h:FH n a0=some r) :
  ACalls Tryz.prog w0 22 [.agg (a0.cs)] ⟨B,Rw,L⟩ fun x st=>x = .val (.int .i64 r)∧st=⟨B,Rw,L⟩:=by
 rw [FH] at h
 refine hd [.cell 2 32] Tryz.func22 Tryz.ntmps22 fun M0 W0 hN ax ar q hu d hs=>?_
 simp only [As]
 refine rg [1,2] hs ?_
 apply Ah;intro K2 ae
 apply Ao 2 [1,2,3]
 rw [Am];simp +decide only [go_sem,Nat.reduceAdd,Vt]
 (repeat' apply Aa)<;>first | refine Ai _ (ZdW w0 _ _ _ ) (by first | rfl | (simp +decide only [go_sem,Nat.reduceAdd,Vt];done) | (simp +decide only [go_sem,Nat.reduceAdd,Vl.cs,Ty.cs,Vt];done)) ?_ | exact cl
 rw [Am];simp +decide only [go_sem,Nat.reduceAdd,Vt]
 (repeat' apply Aa)<;>first | refine ae _ _ ?_ | exact cl
 clear ae
 refine rg [1,2,3,4] hs ?_
 apply Ah;intro K4 ak
 refine rc 2 [2,3,4,10] hs ?_;intro K5 aj
 refine BE _ (Pg w0 _ _ _ a0) (hv hs) ?_;rintro _ _ ⟨rfl,rfl⟩
 refine ne hs aj ?_
 clear aj
 apply Ak
 obtain ⟨aw,h⟩:=Aj h
 refine Sz (Jj a0) (fun st=>st.boxes[(B.length+4)]? = some a0.cs) (fun i st=>∃ (c:Int) (Rr7:List RowA),st=⟨B++([a0.cs,[.val (.int .i64 0)],[.val .nilFunc,.clo 108 [],.clo 110 [],.clo 111 [],.clo 113 [],.clo 116 [],.clo 117 [],.clo 118 [],.clo 119 [],.clo 120 [],.clo 121 []],[.val (.int .i64 c)],a0.cs]),Rr7,L⟩∧Owns Rw Rr7 []∧B8 n ((Ff 1 a0).drop i) c=some r) (fun ex st=>ex = .ret∧∃ (z0:List AV) (z2:List AV) (z3:List AV) (z4:List AV) (rows:List RowA),st=⟨B++[z0,[.val (.int .i64 r)],z2,z3,z4],rows,L⟩∧Owns Rw rows []) ev ev (MD w0 a0 aw _) (fun x hx=>Qe a0 x hx) (by decide) ?_ ⟨0,Rw,ef hs,d,h⟩ (fun _ _ h => .inl h.1) ?_ ?_ ?_
 ·rintro i st la ⟨c,Rr7,rfl,d,h⟩ _ _;simp +decide [St.push]
 ·rintro i s1 ⟨XB,XR,XL⟩ x M1 W1 l la a2 hX hI av am hx g K hK
  obtain ⟨b,ay,rfl,hi⟩:=P5 a0 i x hx
  (try simp only at hX)
  subst hX
  obtain ⟨c,Rr7,rfl,d,h⟩:=hI
  rw [Vh ay,B8] at h
  have a:=d
  simp only [St.ext,St.push,List.append_assoc,List.append_nil]
  refine rg [2,3,4,5,12] hs ?_
  apply Ao 1 [2,3,4,5,6]
  rw [Am];simp +decide only [go_sem,Nat.reduceAdd]
  (repeat' apply Aa)<;>first | refine hK _ _ (by simp [St.ext,St.push]) (fun KQ f=>?_) | exact cl
  clear hK
  dsimp only [St.ext,St.push]
  apply Ak
  obtain ⟨az,h⟩:=Aj h
  refine rg [2,3,4,5,6] hs ?_
  apply Ah;intro K11 U
  apply Ak
  refine rg [2,3,5,6,15] hs ?_
  refine AK h hs (fun hs h=>?_) (fun hs h=>?_)
  ·have j:=hs.1
   refine rg [2] hs ?_
   apply A9;simp +decide only [go_sem,Nat.reduceAdd,j]
   have hgt:=Option.some.inj h;subst hgt
   refine f _ _ _ ⟨⟨B++[a0.cs,[.val (.int .i64 9)],[.val .nilFunc,.clo 108 [],.clo 110 [],.clo 111 [],.clo 113 [],.clo 116 [],.clo 117 [],.clo 118 [],.clo 119 [],.clo 120 [],.clo 121 []],[.val (.int .i64 (c+1))],a0.cs],Rr7,L⟩,[b.2.cs],by first | rfl | (simp only [List.append_assoc,List.append_nil,List.cons_append,List.nil_append];done),⟨by simp,by first | exact Nat.le_refl _ | (have:=d.len;simp;omega),rfl⟩,rfl,⟨rfl,_,_,_,_,Rr7,ef hs,d.sub (List.nil_sublist _)⟩,?_⟩
   exact .inr (Be g a d rfl (ln d a) TM ow)
  have j:=hs.1
  refine rg [2,3,6,18] hs ?_
  refine AK h hs (fun hs h=>?_) (fun hs h=>?_)
  ·have k:=hs.1
   refine rg [2] hs ?_
   apply A9;simp +decide only [go_sem,Nat.reduceAdd,j,k]
   have hgt:=Option.some.inj h;subst hgt
   refine f _ _ _ ⟨⟨B++[a0.cs,[.val (.int .i64 23)],[.val .nilFunc,.clo 108 [],.clo 110 [],.clo 111 [],.clo 113 [],.clo 116 [],.clo 117 [],.clo 118 [],.clo 119 [],.clo 120 [],.clo 121 []],[.val (.int .i64 (c+1))],a0.cs],Rr7,L⟩,[b.2.cs],by first | rfl | (simp only [List.append_assoc,List.append_nil,List.cons_append,List.nil_append];done),⟨by simp,by first | exact Nat.le_refl _ | (have:=d.len;simp;omega),rfl⟩,rfl,⟨rfl,_,_,_,_,Rr7,ef hs,d.sub (List.nil_sublist _)⟩,?_⟩
   exact .inr (Be g a d rfl (ln d a) TM ow)
  have k:=hs.1
  refine rc 2 [2,3,6,21] hs ?_;intro K18 aa
  refine Ai _ (NM w0 _ _ _ b.2) (hv hs) ?_
  refine ne hs aa ?_
  clear aa
  refine AK h hs (fun hs h=>?_) (fun hs h=>?_)
  ·have m:=hs.1
   refine rg [2] hs ?_
   apply A9;simp +decide only [go_sem,Nat.reduceAdd,j,k,m]
   have hgt:=Option.some.inj h;subst hgt
   refine f _ _ _ ⟨⟨B++[a0.cs,[.val (.int .i64 19)],[.val .nilFunc,.clo 108 [],.clo 110 [],.clo 111 [],.clo 113 [],.clo 116 [],.clo 117 [],.clo 118 [],.clo 119 [],.clo 120 [],.clo 121 []],[.val (.int .i64 (c+1))],a0.cs],Rr7,L⟩,[b.2.cs],by first | rfl | (simp only [List.append_assoc,List.append_nil,List.cons_append,List.nil_append];done),⟨by simp,by first | exact Nat.le_refl _ | (have:=d.len;simp;omega),rfl⟩,rfl,⟨rfl,_,_,_,_,Rr7,ef hs,d.sub (List.nil_sublist _)⟩,?_⟩
   exact .inr (Be g a d rfl (ln d a) TM ow)
  have m:=hs.1
  refine rg [2,3,6,24] hs ?_
  refine AK h hs (fun hs h=>?_) (fun hs h=>?_)
  ·have o:=hs.1
   refine rg [2] hs ?_
   apply A9;simp +decide only [go_sem,Nat.reduceAdd,j,k,m,o]
   have hgt:=Option.some.inj h;subst hgt
   refine f _ _ _ ⟨⟨B++[a0.cs,[.val (.int .i64 11)],[.val .nilFunc,.clo 108 [],.clo 110 [],.clo 111 [],.clo 113 [],.clo 116 [],.clo 117 [],.clo 118 [],.clo 119 [],.clo 120 [],.clo 121 []],[.val (.int .i64 (c+1))],a0.cs],Rr7,L⟩,[b.2.cs],by first | rfl | (simp only [List.append_assoc,List.append_nil,List.cons_append,List.nil_append];done),⟨by simp,by first | exact Nat.le_refl _ | (have:=d.len;simp;omega),rfl⟩,rfl,⟨rfl,_,_,_,_,Rr7,ef hs,d.sub (List.nil_sublist _)⟩,?_⟩
   exact .inr (Be g a d rfl (ln d a) TM ow)
  have o:=hs.1
  refine rc 2 [2,3,6,33] hs ?_;intro K24 G
  refine Ai _ (Zat w0 _ _ _ b.2) (hv hs) ?_
  refine ne hs G ?_
  clear G
  refine AK h hs (fun hs h=>?_) (fun hs h=>?_)
  ·have p:=hs.1
   refine rg [2] hs ?_
   apply A9;simp +decide only [go_sem,Nat.reduceAdd,j,k,m,o,p]
   have hgt:=Option.some.inj h;subst hgt
   refine f _ _ _ ⟨⟨B++[a0.cs,[.val (.int .i64 3)],[.val .nilFunc,.clo 108 [],.clo 110 [],.clo 111 [],.clo 113 [],.clo 116 [],.clo 117 [],.clo 118 [],.clo 119 [],.clo 120 [],.clo 121 []],[.val (.int .i64 (c+1))],a0.cs],Rr7,L⟩,[b.2.cs],by first | rfl | (simp only [List.append_assoc,List.append_nil,List.cons_append,List.nil_append];done),⟨by simp,by first | exact Nat.le_refl _ | (have:=d.len;simp;omega),rfl⟩,rfl,⟨rfl,_,_,_,_,Rr7,ef hs,d.sub (List.nil_sublist _)⟩,?_⟩
   exact .inr (Be g a d rfl (ln d a) TM ow)
  have p:=hs.1
  refine sk [2,3,6] hs U ?_
  clear U
  apply Ah;intro K27 e
  rcases Bool.eq_false_or_eq_true (decide (b.2.kind=0)) with hf28 | hf28
  ·replace h:=AY h hf28
   have a1:b.2.kind=0:=of_decide_eq_true hf28
   cases h
  ·replace h:=AZ h hf28
   rcases Bool.eq_false_or_eq_true (decide (b.2.kind=1)) with hf30 | hf30
   ·replace h:=AY h hf30
    have O:b.2.kind=1:=of_decide_eq_true hf30
    have hs:=Aa hf28 hs
    have hs:=Aa hf30 hs
    have hs:=Aa O hs
    refine dk 7 2 1 [2,7] hs HD ?_
    refine Ai _ (V5 w0 _ _ _ b.2) (hv hs) ?_
    refine dn hs e ?_
    clear e
    refine rg [2,7,44] hs ?_
    refine AK h hs (fun hs h=>?_) (fun hs h=>?_)
    ·have H:=hs.1
     refine rg [2] hs ?_
     apply A9;simp +decide only [go_sem,Nat.reduceAdd,j,k,m,o,p,hf28,hf30,O,H]
     have hgt:=Option.some.inj h;subst hgt
     refine f _ _ _ ⟨⟨B++[a0.cs,[.val (.int .i64 (FV b.2))],[.val .nilFunc,.clo 108 [],.clo 110 [],.clo 111 [],.clo 113 [],.clo 116 [],.clo 117 [],.clo 118 [],.clo 119 [],.clo 120 [],.clo 121 []],[.val (.int .i64 (c+1))],a0.cs],Rr7,L⟩,[b.2.cs],by first | rfl | (simp only [List.append_assoc,List.append_nil,List.cons_append,List.nil_append];done),⟨by simp,by first | exact Nat.le_refl _ | (have:=d.len;simp;omega),rfl⟩,rfl,⟨rfl,_,_,_,_,Rr7,ef hs,d.sub (List.nil_sublist _)⟩,?_⟩
     exact .inr (Be g a d rfl (ln d a) TM ow)
    have H:=hs.1
    refine D4 (DD [] _) ?_ (Bm _ _)
    apply Bt;simp +decide only [go_sem,Nat.reduceAdd]
    (repeat' apply Aa)<;>first | refine f _ _ _ ⟨⟨B++[a0.cs,[.val (.int .i64 0)],[.val .nilFunc,.clo 108 [],.clo 110 [],.clo 111 [],.clo 113 [],.clo 116 [],.clo 117 [],.clo 118 [],.clo 119 [],.clo 120 [],.clo 121 []],[.val (.int .i64 (c+1))],a0.cs],Rr7,L⟩,[b.2.cs],by first | rfl | (simp only [List.append_assoc,List.append_nil,List.cons_append,List.nil_append];done),⟨by simp,by first | exact Nat.le_refl _ | (have:=d.len;simp;omega),rfl⟩,rfl,⟨(c+1),Rr7,ef hs,d,h⟩,?_⟩ | exact cl
    exact .inr (Be g a d rfl (ln d a) TM ow)
   ·replace h:=AZ h hf30
    rcases Bool.eq_false_or_eq_true (decide (b.2.kind=2)) with hf35 | hf35
    ·replace h:=AY h hf35
     have D:b.2.kind=2:=of_decide_eq_true hf35
     have hs:=Aa hf28 hs
     have hs:=Aa hf30 hs
     have hs:=Aa hf35 hs
     have hs:=Aa D hs
     refine dk 7 2 1 [2,7] hs HD ?_
     refine Ai _ (Wg w0 _ _ _ b.2) (hv hs) ?_
     refine dn hs e ?_
     clear e
     refine rg [2,7,44] hs ?_
     refine AK h hs (fun hs h=>?_) (fun hs h=>?_)
     ·have N:=hs.1
      refine rg [2] hs ?_
      apply A9;simp +decide only [go_sem,Nat.reduceAdd,j,k,m,o,p,hf28,hf30,hf35,D,N]
      have hgt:=Option.some.inj h;subst hgt
      refine f _ _ _ ⟨⟨B++[a0.cs,[.val (.int .i64 (F3 b.2))],[.val .nilFunc,.clo 108 [],.clo 110 [],.clo 111 [],.clo 113 [],.clo 116 [],.clo 117 [],.clo 118 [],.clo 119 [],.clo 120 [],.clo 121 []],[.val (.int .i64 (c+1))],a0.cs],Rr7,L⟩,[b.2.cs],by first | rfl | (simp only [List.append_assoc,List.append_nil,List.cons_append,List.nil_append];done),⟨by simp,by first | exact Nat.le_refl _ | (have:=d.len;simp;omega),rfl⟩,rfl,⟨rfl,_,_,_,_,Rr7,ef hs,d.sub (List.nil_sublist _)⟩,?_⟩
      exact .inr (Be g a d rfl (ln d a) TM ow)
     have N:=hs.1
     refine D4 (DD [] _) ?_ (Bm _ _)
     apply Bt;simp +decide only [go_sem,Nat.reduceAdd]
     (repeat' apply Aa)<;>first | refine f _ _ _ ⟨⟨B++[a0.cs,[.val (.int .i64 0)],[.val .nilFunc,.clo 108 [],.clo 110 [],.clo 111 [],.clo 113 [],.clo 116 [],.clo 117 [],.clo 118 [],.clo 119 [],.clo 120 [],.clo 121 []],[.val (.int .i64 (c+1))],a0.cs],Rr7,L⟩,[b.2.cs],by first | rfl | (simp only [List.append_assoc,List.append_nil,List.cons_append,List.nil_append];done),⟨by simp,by first | exact Nat.le_refl _ | (have:=d.len;simp;omega),rfl⟩,rfl,⟨(c+1),Rr7,ef hs,d,h⟩,?_⟩ | exact cl
     exact .inr (Be g a d rfl (ln d a) TM ow)
    ·replace h:=AZ h hf35
     rcases Bool.eq_false_or_eq_true (decide (b.2.kind=3)) with hf40 | hf40
     ·replace h:=AY h hf40
      have J:b.2.kind=3:=of_decide_eq_true hf40
      obtain ⟨au,ai,h⟩:=bind_some h
      have hs:=Aa hf28 hs
      have hs:=Aa hf30 hs
      have hs:=Aa hf35 hs
      have hs:=Aa hf40 hs
      have hs:=Aa J hs
      refine dk 7 2 1 [2,7] hs HD ?_
      refine Ai _ (XX w0 n _ _ _ b.2 _ ai) (hv hs) ?_
      refine dn hs e ?_
      clear e
      refine rg [2,7,44] hs ?_
      refine AK h hs (fun hs h=>?_) (fun hs h=>?_)
      ·have Q:=hs.1
       refine rg [2] hs ?_
       apply A9;simp +decide only [go_sem,Nat.reduceAdd,j,k,m,o,p,hf28,hf30,hf35,hf40,J,Q]
       have hgt:=Option.some.inj h;subst hgt
       refine f _ _ _ ⟨⟨B++[a0.cs,[.val (.int .i64 au)],[.val .nilFunc,.clo 108 [],.clo 110 [],.clo 111 [],.clo 113 [],.clo 116 [],.clo 117 [],.clo 118 [],.clo 119 [],.clo 120 [],.clo 121 []],[.val (.int .i64 (c+1))],a0.cs],Rr7,L⟩,[b.2.cs],by first | rfl | (simp only [List.append_assoc,List.append_nil,List.cons_append,List.nil_append];done),⟨by simp,by first | exact Nat.le_refl _ | (have:=d.len;simp;omega),rfl⟩,rfl,⟨rfl,_,_,_,_,Rr7,ef hs,d.sub (List.nil_sublist _)⟩,?_⟩
       exact .inr (Be g a d rfl (ln d a) TM ow)
      have Q:=hs.1
      refine D4 (DD [] _) ?_ (Bm _ _)
      apply Bt;simp +decide only [go_sem,Nat.reduceAdd]
      (repeat' apply Aa)<;>first | refine f _ _ _ ⟨⟨B++[a0.cs,[.val (.int .i64 0)],[.val .nilFunc,.clo 108 [],.clo 110 [],.clo 111 [],.clo 113 [],.clo 116 [],.clo 117 [],.clo 118 [],.clo 119 [],.clo 120 [],.clo 121 []],[.val (.int .i64 (c+1))],a0.cs],Rr7,L⟩,[b.2.cs],by first | rfl | (simp only [List.append_assoc,List.append_nil,List.cons_append,List.nil_append];done),⟨by simp,by first | exact Nat.le_refl _ | (have:=d.len;simp;omega),rfl⟩,rfl,⟨(c+1),Rr7,ef hs,d,h⟩,?_⟩ | exact cl
      exact .inr (Be g a d rfl (ln d a) TM ow)
     ·replace h:=AZ h hf40
      rcases Bool.eq_false_or_eq_true (decide (b.2.kind=4)) with hf46 | hf46
      ·replace h:=AY h hf46
       have z:b.2.kind=4:=of_decide_eq_true hf46
       obtain ⟨ao,ah,h⟩:=bind_some h
       have hs:=Aa hf28 hs
       have hs:=Aa hf30 hs
       have hs:=Aa hf35 hs
       have hs:=Aa hf40 hs
       have hs:=Aa hf46 hs
       have hs:=Aa z hs
       refine dk 7 2 1 [2,7] hs HD ?_
       refine Ai _ (Xo w0 hT _ _ _ b.2 _ ah) (hv hs) ?_
       refine dn hs e ?_
       clear e
       refine rg [2,7,44] hs ?_
       refine AK h hs (fun hs h=>?_) (fun hs h=>?_)
       ·have v:=hs.1
        refine rg [2] hs ?_
        apply A9;simp +decide only [go_sem,Nat.reduceAdd,j,k,m,o,p,hf28,hf30,hf35,hf40,hf46,z,v]
        have hgt:=Option.some.inj h;subst hgt
        refine f _ _ _ ⟨⟨B++[a0.cs,[.val (.int .i64 ao)],[.val .nilFunc,.clo 108 [],.clo 110 [],.clo 111 [],.clo 113 [],.clo 116 [],.clo 117 [],.clo 118 [],.clo 119 [],.clo 120 [],.clo 121 []],[.val (.int .i64 (c+1))],a0.cs],Rr7,L⟩,[b.2.cs],by first | rfl | (simp only [List.append_assoc,List.append_nil,List.cons_append,List.nil_append];done),⟨by simp,by first | exact Nat.le_refl _ | (have:=d.len;simp;omega),rfl⟩,rfl,⟨rfl,_,_,_,_,Rr7,ef hs,d.sub (List.nil_sublist _)⟩,?_⟩
        exact .inr (Be g a d rfl (ln d a) TM ow)
       have v:=hs.1
       refine D4 (DD [] _) ?_ (Bm _ _)
       apply Bt;simp +decide only [go_sem,Nat.reduceAdd]
       (repeat' apply Aa)<;>first | refine f _ _ _ ⟨⟨B++[a0.cs,[.val (.int .i64 0)],[.val .nilFunc,.clo 108 [],.clo 110 [],.clo 111 [],.clo 113 [],.clo 116 [],.clo 117 [],.clo 118 [],.clo 119 [],.clo 120 [],.clo 121 []],[.val (.int .i64 (c+1))],a0.cs],Rr7,L⟩,[b.2.cs],by first | rfl | (simp only [List.append_assoc,List.append_nil,List.cons_append,List.nil_append];done),⟨by simp,by first | exact Nat.le_refl _ | (have:=d.len;simp;omega),rfl⟩,rfl,⟨(c+1),Rr7,ef hs,d,h⟩,?_⟩ | exact cl
       exact .inr (Be g a d rfl (ln d a) TM ow)
      ·replace h:=AZ h hf46
       rcases Bool.eq_false_or_eq_true (decide (b.2.kind=5)) with hf52 | hf52
       ·replace h:=AY h hf52
        have ab:b.2.kind=5:=of_decide_eq_true hf52
        have hs:=Aa hf28 hs
        have hs:=Aa hf30 hs
        have hs:=Aa hf35 hs
        have hs:=Aa hf40 hs
        have hs:=Aa hf46 hs
        have hs:=Aa hf52 hs
        have hs:=Aa ab hs
        refine dk 7 2 1 [2,7] hs HD ?_
        refine Ai _ (V3 w0 _ _ _ b.2) (hv hs) ?_
        refine dn hs e ?_
        clear e
        refine rg [2,7,44] hs ?_
        refine AK h hs (fun hs h=>?_) (fun hs h=>?_)
        ·have V:=hs.1
         refine rg [2] hs ?_
         apply A9;simp +decide only [go_sem,Nat.reduceAdd,j,k,m,o,p,hf28,hf30,hf35,hf40,hf46,hf52,ab,V]
         have hgt:=Option.some.inj h;subst hgt
         refine f _ _ _ ⟨⟨B++[a0.cs,[.val (.int .i64 (Ge b.2))],[.val .nilFunc,.clo 108 [],.clo 110 [],.clo 111 [],.clo 113 [],.clo 116 [],.clo 117 [],.clo 118 [],.clo 119 [],.clo 120 [],.clo 121 []],[.val (.int .i64 (c+1))],a0.cs],Rr7,L⟩,[b.2.cs],by first | rfl | (simp only [List.append_assoc,List.append_nil,List.cons_append,List.nil_append];done),⟨by simp,by first | exact Nat.le_refl _ | (have:=d.len;simp;omega),rfl⟩,rfl,⟨rfl,_,_,_,_,Rr7,ef hs,d.sub (List.nil_sublist _)⟩,?_⟩
         exact .inr (Be g a d rfl (ln d a) TM ow)
        have V:=hs.1
        refine D4 (DD [] _) ?_ (Bm _ _)
        apply Bt;simp +decide only [go_sem,Nat.reduceAdd]
        (repeat' apply Aa)<;>first | refine f _ _ _ ⟨⟨B++[a0.cs,[.val (.int .i64 0)],[.val .nilFunc,.clo 108 [],.clo 110 [],.clo 111 [],.clo 113 [],.clo 116 [],.clo 117 [],.clo 118 [],.clo 119 [],.clo 120 [],.clo 121 []],[.val (.int .i64 (c+1))],a0.cs],Rr7,L⟩,[b.2.cs],by first | rfl | (simp only [List.append_assoc,List.append_nil,List.cons_append,List.nil_append];done),⟨by simp,by first | exact Nat.le_refl _ | (have:=d.len;simp;omega),rfl⟩,rfl,⟨(c+1),Rr7,ef hs,d,h⟩,?_⟩ | exact cl
        exact .inr (Be g a d rfl (ln d a) TM ow)
       ·replace h:=AZ h hf52
        rcases Bool.eq_false_or_eq_true (decide (b.2.kind=6)) with hf57 | hf57
        ·replace h:=AY h hf57
         have F:b.2.kind=6:=of_decide_eq_true hf57
         have hs:=Aa hf28 hs
         have hs:=Aa hf30 hs
         have hs:=Aa hf35 hs
         have hs:=Aa hf40 hs
         have hs:=Aa hf46 hs
         have hs:=Aa hf52 hs
         have hs:=Aa hf57 hs
         have hs:=Aa F hs
         refine dk 7 2 1 [2,7] hs HD ?_
         refine Ai _ (V7 w0 _ _ _ b.2) (hv hs) ?_
         refine dn hs e ?_
         clear e
         refine rg [2,7,44] hs ?_
         refine AK h hs (fun hs h=>?_) (fun hs h=>?_)
         ·have t:=hs.1
          refine rg [2] hs ?_
          apply A9;simp +decide only [go_sem,Nat.reduceAdd,j,k,m,o,p,hf28,hf30,hf35,hf40,hf46,hf52,hf57,F,t]
          have hgt:=Option.some.inj h;subst hgt
          refine f _ _ _ ⟨⟨B++[a0.cs,[.val (.int .i64 (F9 b.2))],[.val .nilFunc,.clo 108 [],.clo 110 [],.clo 111 [],.clo 113 [],.clo 116 [],.clo 117 [],.clo 118 [],.clo 119 [],.clo 120 [],.clo 121 []],[.val (.int .i64 (c+1))],a0.cs],Rr7,L⟩,[b.2.cs],by first | rfl | (simp only [List.append_assoc,List.append_nil,List.cons_append,List.nil_append];done),⟨by simp,by first | exact Nat.le_refl _ | (have:=d.len;simp;omega),rfl⟩,rfl,⟨rfl,_,_,_,_,Rr7,ef hs,d.sub (List.nil_sublist _)⟩,?_⟩
          exact .inr (Be g a d rfl (ln d a) TM ow)
         have t:=hs.1
         refine D4 (DD [] _) ?_ (Bm _ _)
         apply Bt;simp +decide only [go_sem,Nat.reduceAdd]
         (repeat' apply Aa)<;>first | refine f _ _ _ ⟨⟨B++[a0.cs,[.val (.int .i64 0)],[.val .nilFunc,.clo 108 [],.clo 110 [],.clo 111 [],.clo 113 [],.clo 116 [],.clo 117 [],.clo 118 [],.clo 119 [],.clo 120 [],.clo 121 []],[.val (.int .i64 (c+1))],a0.cs],Rr7,L⟩,[b.2.cs],by first | rfl | (simp only [List.append_assoc,List.append_nil,List.cons_append,List.nil_append];done),⟨by simp,by first | exact Nat.le_refl _ | (have:=d.len;simp;omega),rfl⟩,rfl,⟨(c+1),Rr7,ef hs,d,h⟩,?_⟩ | exact cl
         exact .inr (Be g a d rfl (ln d a) TM ow)
        ·replace h:=AZ h hf57
         rcases Bool.eq_false_or_eq_true (decide (b.2.kind=7)) with hf62 | hf62
         ·replace h:=AY h hf62
          have w:b.2.kind=7:=of_decide_eq_true hf62
          have hs:=Aa hf28 hs
          have hs:=Aa hf30 hs
          have hs:=Aa hf35 hs
          have hs:=Aa hf40 hs
          have hs:=Aa hf46 hs
          have hs:=Aa hf52 hs
          have hs:=Aa hf57 hs
          have hs:=Aa hf62 hs
          have hs:=Aa w hs
          refine dk 7 2 1 [2,7] hs HD ?_
          refine Ai _ (V8 w0 _ _ _ b.2) (hv hs) ?_
          refine dn hs e ?_
          clear e
          refine rg [2,7,44] hs ?_
          refine AK h hs (fun hs h=>?_) (fun hs h=>?_)
          ·have ad:=hs.1
           refine rg [2] hs ?_
           apply A9;simp +decide only [go_sem,Nat.reduceAdd,j,k,m,o,p,hf28,hf30,hf35,hf40,hf46,hf52,hf57,hf62,w,ad]
           have hgt:=Option.some.inj h;subst hgt
           refine f _ _ _ ⟨⟨B++[a0.cs,[.val (.int .i64 (F7 b.2))],[.val .nilFunc,.clo 108 [],.clo 110 [],.clo 111 [],.clo 113 [],.clo 116 [],.clo 117 [],.clo 118 [],.clo 119 [],.clo 120 [],.clo 121 []],[.val (.int .i64 (c+1))],a0.cs],Rr7,L⟩,[b.2.cs],by first | rfl | (simp only [List.append_assoc,List.append_nil,List.cons_append,List.nil_append];done),⟨by simp,by first | exact Nat.le_refl _ | (have:=d.len;simp;omega),rfl⟩,rfl,⟨rfl,_,_,_,_,Rr7,ef hs,d.sub (List.nil_sublist _)⟩,?_⟩
           exact .inr (Be g a d rfl (ln d a) TM ow)
          have ad:=hs.1
          refine D4 (DD [] _) ?_ (Bm _ _)
          apply Bt;simp +decide only [go_sem,Nat.reduceAdd]
          (repeat' apply Aa)<;>first | refine f _ _ _ ⟨⟨B++[a0.cs,[.val (.int .i64 0)],[.val .nilFunc,.clo 108 [],.clo 110 [],.clo 111 [],.clo 113 [],.clo 116 [],.clo 117 [],.clo 118 [],.clo 119 [],.clo 120 [],.clo 121 []],[.val (.int .i64 (c+1))],a0.cs],Rr7,L⟩,[b.2.cs],by first | rfl | (simp only [List.append_assoc,List.append_nil,List.cons_append,List.nil_append];done),⟨by simp,by first | exact Nat.le_refl _ | (have:=d.len;simp;omega),rfl⟩,rfl,⟨(c+1),Rr7,ef hs,d,h⟩,?_⟩ | exact cl
          exact .inr (Be g a d rfl (ln d a) TM ow)
         ·replace h:=AZ h hf62
          rcases Bool.eq_false_or_eq_true (decide (b.2.kind=8)) with hf67 | hf67
          ·replace h:=AY h hf67
           have y:b.2.kind=8:=of_decide_eq_true hf67
           have hs:=Aa hf28 hs
           have hs:=Aa hf30 hs
           have hs:=Aa hf35 hs
           have hs:=Aa hf40 hs
           have hs:=Aa hf46 hs
           have hs:=Aa hf52 hs
           have hs:=Aa hf57 hs
           have hs:=Aa hf62 hs
           have hs:=Aa hf67 hs
           have hs:=Aa y hs
           refine dk 7 2 1 [2,7] hs HD ?_
           refine Ai _ (V2 w0 _ _ _ b.2) (hv hs) ?_
           refine dn hs e ?_
           clear e
           refine rg [2,7,44] hs ?_
           refine AK h hs (fun hs h=>?_) (fun hs h=>?_)
           ·have E:=hs.1
            refine rg [2] hs ?_
            apply A9;simp +decide only [go_sem,Nat.reduceAdd,j,k,m,o,p,hf28,hf30,hf35,hf40,hf46,hf52,hf57,hf62,hf67,y,E]
            have hgt:=Option.some.inj h;subst hgt
            refine f _ _ _ ⟨⟨B++[a0.cs,[.val (.int .i64 (FZ b.2))],[.val .nilFunc,.clo 108 [],.clo 110 [],.clo 111 [],.clo 113 [],.clo 116 [],.clo 117 [],.clo 118 [],.clo 119 [],.clo 120 [],.clo 121 []],[.val (.int .i64 (c+1))],a0.cs],Rr7,L⟩,[b.2.cs],by first | rfl | (simp only [List.append_assoc,List.append_nil,List.cons_append,List.nil_append];done),⟨by simp,by first | exact Nat.le_refl _ | (have:=d.len;simp;omega),rfl⟩,rfl,⟨rfl,_,_,_,_,Rr7,ef hs,d.sub (List.nil_sublist _)⟩,?_⟩
            exact .inr (Be g a d rfl (ln d a) TM ow)
           have E:=hs.1
           refine D4 (DD [] _) ?_ (Bm _ _)
           apply Bt;simp +decide only [go_sem,Nat.reduceAdd]
           (repeat' apply Aa)<;>first | refine f _ _ _ ⟨⟨B++[a0.cs,[.val (.int .i64 0)],[.val .nilFunc,.clo 108 [],.clo 110 [],.clo 111 [],.clo 113 [],.clo 116 [],.clo 117 [],.clo 118 [],.clo 119 [],.clo 120 [],.clo 121 []],[.val (.int .i64 (c+1))],a0.cs],Rr7,L⟩,[b.2.cs],by first | rfl | (simp only [List.append_assoc,List.append_nil,List.cons_append,List.nil_append];done),⟨by simp,by first | exact Nat.le_refl _ | (have:=d.len;simp;omega),rfl⟩,rfl,⟨(c+1),Rr7,ef hs,d,h⟩,?_⟩ | exact cl
           exact .inr (Be g a d rfl (ln d a) TM ow)
          ·replace h:=AZ h hf67
           rcases Bool.eq_false_or_eq_true (decide (b.2.kind=9)) with hf72 | hf72
           ·replace h:=AY h hf72
            have Z:b.2.kind=9:=of_decide_eq_true hf72
            obtain ⟨ap,af,h⟩:=bind_some h
            have hs:=Aa hf28 hs
            have hs:=Aa hf30 hs
            have hs:=Aa hf35 hs
            have hs:=Aa hf40 hs
            have hs:=Aa hf46 hs
            have hs:=Aa hf52 hs
            have hs:=Aa hf57 hs
            have hs:=Aa hf62 hs
            have hs:=Aa hf67 hs
            have hs:=Aa hf72 hs
            have hs:=Aa Z hs
            refine dk 7 2 1 [2,7] hs HD ?_
            refine Ai _ (Yl w0 n _ _ _ b.2 _ af) (hv hs) ?_
            refine dn hs e ?_
            clear e
            refine rg [2,7,44] hs ?_
            refine AK h hs (fun hs h=>?_) (fun hs h=>?_)
            ·have u:=hs.1
             refine rg [2] hs ?_
             apply A9;simp +decide only [go_sem,Nat.reduceAdd,j,k,m,o,p,hf28,hf30,hf35,hf40,hf46,hf52,hf57,hf62,hf67,hf72,Z,u]
             have hgt:=Option.some.inj h;subst hgt
             refine f _ _ _ ⟨⟨B++[a0.cs,[.val (.int .i64 ap)],[.val .nilFunc,.clo 108 [],.clo 110 [],.clo 111 [],.clo 113 [],.clo 116 [],.clo 117 [],.clo 118 [],.clo 119 [],.clo 120 [],.clo 121 []],[.val (.int .i64 (c+1))],a0.cs],Rr7,L⟩,[b.2.cs],by first | rfl | (simp only [List.append_assoc,List.append_nil,List.cons_append,List.nil_append];done),⟨by simp,by first | exact Nat.le_refl _ | (have:=d.len;simp;omega),rfl⟩,rfl,⟨rfl,_,_,_,_,Rr7,ef hs,d.sub (List.nil_sublist _)⟩,?_⟩
             exact .inr (Be g a d rfl (ln d a) TM ow)
            have u:=hs.1
            refine D4 (DD [] _) ?_ (Bm _ _)
            apply Bt;simp +decide only [go_sem,Nat.reduceAdd]
            (repeat' apply Aa)<;>first | refine f _ _ _ ⟨⟨B++[a0.cs,[.val (.int .i64 0)],[.val .nilFunc,.clo 108 [],.clo 110 [],.clo 111 [],.clo 113 [],.clo 116 [],.clo 117 [],.clo 118 [],.clo 119 [],.clo 120 [],.clo 121 []],[.val (.int .i64 (c+1))],a0.cs],Rr7,L⟩,[b.2.cs],by first | rfl | (simp only [List.append_assoc,List.append_nil,List.cons_append,List.nil_append];done),⟨by simp,by first | exact Nat.le_refl _ | (have:=d.len;simp;omega),rfl⟩,rfl,⟨(c+1),Rr7,ef hs,d,h⟩,?_⟩ | exact cl
            exact .inr (Be g a d rfl (ln d a) TM ow)
           ·replace h:=AZ h hf72
            rcases Bool.eq_false_or_eq_true (decide (b.2.kind=10)) with hf78 | hf78
            ·replace h:=AY h hf78
             have Y:b.2.kind=10:=of_decide_eq_true hf78
             obtain ⟨aq,ag,h⟩:=bind_some h
             have hs:=Aa hf28 hs
             have hs:=Aa hf30 hs
             have hs:=Aa hf35 hs
             have hs:=Aa hf40 hs
             have hs:=Aa hf46 hs
             have hs:=Aa hf52 hs
             have hs:=Aa hf57 hs
             have hs:=Aa hf62 hs
             have hs:=Aa hf67 hs
             have hs:=Aa hf72 hs
             have hs:=Aa hf78 hs
             have hs:=Aa Y hs
             refine dk 7 2 1 [2,7] hs HD ?_
             refine Ai _ (V4 w0 _ _ _ b.2 _ ag) (hv hs) ?_
             refine dn hs e ?_
             clear e
             refine rg [2,7,44] hs ?_
             refine AK h hs (fun hs h=>?_) (fun hs h=>?_)
             ·have C:=hs.1
              refine rg [2] hs ?_
              apply A9;simp +decide only [go_sem,Nat.reduceAdd,j,k,m,o,p,hf28,hf30,hf35,hf40,hf46,hf52,hf57,hf62,hf67,hf72,hf78,Y,C]
              have hgt:=Option.some.inj h;subst hgt
              refine f _ _ _ ⟨⟨B++[a0.cs,[.val (.int .i64 aq)],[.val .nilFunc,.clo 108 [],.clo 110 [],.clo 111 [],.clo 113 [],.clo 116 [],.clo 117 [],.clo 118 [],.clo 119 [],.clo 120 [],.clo 121 []],[.val (.int .i64 (c+1))],a0.cs],Rr7,L⟩,[b.2.cs],by first | rfl | (simp only [List.append_assoc,List.append_nil,List.cons_append,List.nil_append];done),⟨by simp,by first | exact Nat.le_refl _ | (have:=d.len;simp;omega),rfl⟩,rfl,⟨rfl,_,_,_,_,Rr7,ef hs,d.sub (List.nil_sublist _)⟩,?_⟩
              exact .inr (Be g a d rfl (ln d a) TM ow)
             have C:=hs.1
             refine D4 (DD [] _) ?_ (Bm _ _)
             apply Bt;simp +decide only [go_sem,Nat.reduceAdd]
             (repeat' apply Aa)<;>first | refine f _ _ _ ⟨⟨B++[a0.cs,[.val (.int .i64 0)],[.val .nilFunc,.clo 108 [],.clo 110 [],.clo 111 [],.clo 113 [],.clo 116 [],.clo 117 [],.clo 118 [],.clo 119 [],.clo 120 [],.clo 121 []],[.val (.int .i64 (c+1))],a0.cs],Rr7,L⟩,[b.2.cs],by first | rfl | (simp only [List.append_assoc,List.append_nil,List.cons_append,List.nil_append];done),⟨by simp,by first | exact Nat.le_refl _ | (have:=d.len;simp;omega),rfl⟩,rfl,⟨(c+1),Rr7,ef hs,d,h⟩,?_⟩ | exact cl
             exact .inr (Be g a d rfl (ln d a) TM ow)
            ·replace h:=AZ h hf78
             cases h
 ·rintro s la ⟨XB,XR,XL⟩ hXR ⟨c,Rr7,rfl,d,h⟩ _ _
  simp only at hXR
  subst hXR
  rw [List.drop_eq_nil_of_le (by rw [Me];exact Nat.le_refl _),B8] at h
  simp only [St.ext,St.push,List.append_assoc,List.append_nil]
  (repeat' apply Aa)<;>first | refine ak _ _ ?_ | exact cl
  clear ak
  refine RJ (bs:=[a0.cs,[.val (.int .i64 0)],[.val .nilFunc,.clo 108 [],.clo 110 [],.clo 111 [],.clo 113 [],.clo 116 [],.clo 117 [],.clo 118 [],.clo 119 [],.clo 120 [],.clo 121 []],[.val (.int .i64 c)],a0.cs]) hN ax ar rfl q d ow ow ?_
  refine rg [2] hs ?_
  exact rt h hs q d
 ·rintro ex s la ⟨XB,XR,XL⟩ hXR ⟨rfl,z0,z2,z3,z4,rows,rfl,d⟩ _ _
  simp only at hXR
  subst hXR
  simp only [St.ext,St.push,List.append_assoc,List.append_nil]
  simp +decide only [go_sem,Nat.reduceAdd]
  (repeat' with_reducible apply Aa)<;>first | refine Zkv q rfl d.pre ev ⟨?_,rfl⟩ | (intros;omega) | (intros;simp_all;done)
  first | rfl | (simp +decide only [go_sem,Nat.reduceAdd];done)
theorem ZD {j:Nat}:((j+1:Nat):Int)-1=(j:Int):=by omega
theorem Zbw {j:Nat}:decide (0<((j+1:Nat):Int))=true:=Ad (by omega)
theorem ZbJ {k:Nat} (h:k<1000000000000):B2 (k:Int):=by unfold B2;omega
def Nl:Option ByteArray→List ByteArray→Int
 | _,[]=>0
 | none,x::r=>if EU x=true then Nl (some x) r else 12
 | some p,x::r=>if EU x=true then (if DR x p=true then 7 else if WL x p=true then 24 else Nl (some x) r) else 12
def ZaH (l:List (ByteArray × Vl)):Nat→Option ByteArray
 | 0=>none
 | i+1=>(l[i]?).map Prod.fst
theorem Zbi (n:Nat) (v:Vl) (hl:(v.fields).length≤1000000000000) (hz:∀ p∈v.fields,p.1.size≤maxLen):∀ (k m i:Nat),i+k=(v.fields).length→k<m→EB n v m i=some (Nl (ZaH (v.fields) i) (((v.fields).map Prod.fst).drop i))
 | k,0,i,_,h=>absurd h (Nat.not_lt_zero _)
 | 0,m+1,i,hi,_=>by
  rw [EB,Av,Ac (by omega)]
  simp only [Bool.false_eq_true,if_false,Kv]
  rw [List.drop_eq_nil_of_le (by rw [List.length_map];omega)]
  cases ZaH (v.fields) i<;>rfl
 | k+1,m+1,i,hi,hm=>by
  have a:i<(v.fields).length:=by omega
  have ih:=Zbi n v hl hz k m (i+1) (by omega) (by omega)
  rw [EB,Av,Ad a]
  simp only [if_true,AD a,Ab]
  rw [Ae (hz _ (List.getElem_mem a)),List.drop_eq_getElem_cons (by rw [List.length_map];omega),List.getElem_map]
  have d:ZaH (v.fields) (i+1)=some (v.fields)[i].1:=by simp only [ZaH,List.getElem?_eq_getElem a];rfl
  rw [d] at ih
  cases i with
  | zero =>
   simp only [ZaH,Nl]
   by_cases hb:EU (v.fields)[0].1=true
   ·rw [Ae hb,hb]
    simp only [Bool.not_true,Bool.false_eq_true,if_false]
    rw [Af (by decide),Ae (AA (by omega))]
    exact ih
   ·rw [Af hb,Bool.eq_false_iff.2 hb];rfl
  | succ j =>
   have b:j<(v.fields).length:=by omega
   have c:ZaH (v.fields) (j+1)=some (v.fields)[j].1:=by simp only [ZaH,List.getElem?_eq_getElem b];rfl
   rw [c]
   simp only [Nl]
   by_cases hb:EU (v.fields)[j+1].1=true
   ·rw [Ae hb,hb]
    simp only [Bool.not_true,Bool.false_eq_true,if_false,Zbw,if_true,ZD]
    have e:B2 (j:Int):=ZbJ (by omega)
    simp only [Ae e,AD b,Ab]
    by_cases h1:DR (v.fields)[j+1].1 (v.fields)[j].1=true
    ·rw [Ae h1,Ae h1]
    ·rw [Af h1,Af h1]
     by_cases h2:WL (v.fields)[j+1].1 (v.fields)[j].1=true
     ·rw [Ae h2,Ae h2]
     ·rw [Af h2,Af h2,Ae (AA (by omega))]
      exact ih
   ·rw [Af hb,Bool.eq_false_iff.2 hb];rfl
def Ep (v:Vl):Int :=
 if BJ v=true then 19
 else if v.kind<1∨10<v.kind then 11
 else if A1 v=true then 3
 else if v.kind=1 then (if A6 v.int 0 1=true then 2 else 0)
 else if v.kind=2 then (if A6 v.int (-999999999999999) 999999999999999=true∨A6 v.scale 0 12=true then 2 else 0)
 else if v.kind=3 then (if A6 v.int (-999999999999999) 999999999999999=true∨A6 v.scale 0 12=true then 2 else 0)
 else if v.kind=4 then (if 1024<v.text.size then 5 else if Lib.validD v.text.data.toList=true then 0 else 16)
 else if v.kind=5 then (if 1024<v.text.size then 5 else 0)
 else if v.kind=6 then (if A6 v.int (-719162) 2932896=true then 2 else 0)
 else if v.kind=7 then (if A6 v.int (-62135596800000) 253402300799999=true then 2 else 0)
 else if v.kind=8 then (if 256<v.list.length then 9 else 0)
 else if v.kind=9 then (if 64<v.fields.length then 9 else Nl none (v.fields.map Prod.fst))
 else if EU v.text=true then (if v.list.length=0 then 4 else if 1<v.list.length then 3 else 0) else 12
theorem Fe {k:Int} (h:¬ (k<1∨10<k)):k=1∨k=2∨k=3∨k=4∨k=5∨k=6∨k=7∨k=8∨k=9∨k=10:=by omega
theorem ZgG (v:Vl) (h:¬ (v.kind<1∨10<v.kind)):MV v = !A1 v:=by
 have a:∀ x:Nat,decide (0<(x:Int)) = !decide ((x:Int)=0):=fun x=>by
  by_cases h:x=0
  ·subst h;rfl
  ·rw [Ad (show 0<(x:Int) by omega),Ac (show ¬ (x:Int)=0 by omega)];rfl
 rw [MV,A1]
 simp only [a]
 rcases Fe h with hk | hk | hk | hk | hk | hk | hk | hk | hk | hk<;>simp only [hk]<;>simp [Bool.and_assoc]
theorem ZhS (n:Nat) (hn:3≤n) (a b:Int):MQ n [a,b]=some (if a=0 then b else a):=by
 obtain ⟨m,rfl⟩:∃ m,n=m+3:=⟨n-3,by omega⟩
 rw [MQ,Ik]
 simp only [List.length_cons,List.length_nil]
 rw [Ae (by simp),show Ci [a,b] 0=some a from rfl]
 simp only [Ab]
 by_cases h:a=0
 ·rw [Ad h,Af (by decide),Ae (by decide),Ae h,Ik]
  simp only [List.length_cons,List.length_nil]
  rw [Ae (by simp),show Ci [a,b] (0+1)=some b from rfl]
  simp only [Ab]
  by_cases h2:b=0
  ·rw [Ad h2,Af (by decide),Ae (by decide),Ik]
   simp only [List.length_cons,List.length_nil]
   rw [Af (by simp),NI,h2]
  ·rw [Ac h2,Ae (by decide)]
 ·rw [Ac h,Ae (by decide),Af h]
theorem ZdH (n:Nat) (hn:3≤n) (v:Vl) (hfl:v.fields.length<n) (hs:v.fields.length≤1000000000000) (hv:v.ok) (h1:¬ BJ v=true) (h2:¬ (v.kind<1∨10<v.kind)) (h3:¬ A1 v=true) :
  (v.kind=1→FV v=Ep v)∧(v.kind=2→F3 v=Ep v)∧(v.kind=3→JW n v=some (Ep v))∧(v.kind=4→JG v=some (Ep v))∧(v.kind=5→Ge v=Ep v) ∧
  (v.kind=6→F9 v=Ep v)∧(v.kind=7→F7 v=Ep v)∧(v.kind=8→FZ v=Ep v)∧(v.kind=9→JC n v=some (Ep v))∧(v.kind=10→IK v=some (Ep v)):=by
 obtain ⟨d,_,g⟩:=v.ok_eq.1 hv
 have i:∀ p∈v.fields,p.1.size≤maxLen:=fun p f=>UW (by have:=(g p f).1;omega)
 have c:v.text.size≤maxLen:=UW d
 rw [Ep,Af h1,Af h2,Af h3]
 refine ⟨fun a=>?_,fun a=>?_,fun a=>?_,fun a=>?_,fun a=>?_,fun a=>?_,fun a=>?_,fun a=>?_,fun a=>?_,fun a=>?_⟩
 ·simp [a,FV,B6,A6]
 ·have b:v.scale=0:=by
   rw [A1] at h3
   simp [a] at h3
   exact h3.1.1.1
  simp [a,b,F3,B6,A6]
 ·rw [JW,ZhS n hn]
  simp [a,B6,A6]
  by_cases q:v.int < -999999999999999∨999999999999999<v.int
  ·simp [q];omega
  ·simp [q];omega
 ·rw [JG]
  simp only [a,Dj,Hv,Ae c]
  simp
  (repeat' split)<;>first | rfl | (exfalso;omega) | simp_all
 ·simp [a,Ge,Dj]
  (repeat' split)<;>first | rfl | (exfalso;omega) | simp_all
 ·simp [a,F9,B6,A6]
 ·simp [a,F7,B6,A6]
 ·simp [a,FZ,Dj]
  (repeat' split)<;>first | rfl | (exfalso;omega) | simp_all
 ·rw [JC]
  by_cases h:64<v.fields.length
  ·simp [a,Dj,h,show (64:Int)<(v.fields.length:Int) by omega]
  ·have e:=Zbi n v hs i v.fields.length n 0 (by omega) hfl
   simp only [List.drop_zero] at e
   simp only [a,Dj,Ac (show ¬ (64:Int)<(v.fields.length:Int) by omega),Bool.false_eq_true,if_false,decide_true,Bool.not_true,Af h]
   exact e
 ·rw [IK,Ae c]
  simp only [a,Dj]
  simp
  (repeat' split)<;>first | rfl | (exfalso;omega) | simp_all
theorem Zf2 (n:Nat) (hn:3≤n) (lv:Nat) (v:Vl) (rest:List (Nat × Vl)) (c:Int) (hfl:v.fields.length<n) (hs:v.fields.length≤1000000000000) (hv:v.ok) :
  B8 n ((lv,v)::rest) c=if B2 (c+1) then (if 4096<c+1 then some 9 else if 8<(lv:Int) then some 23 else if Ep v=0 then B8 n rest (c+1) else some (Ep v)) else none:=by
 rw [B8]
 by_cases hI:B2 (c+1)
 rotate_left
 ·rw [Af hI,Af hI]
 rw [Ae hI,Ae hI]
 by_cases q1:4096<c+1
 ·rw [Ae q1,Ae (Ad q1)]
 rw [Af q1,Af (by simpa using q1)]
 by_cases q2:8<(lv:Int)
 ·rw [Ae q2,Ae (Ad q2)]
 rw [Af q2,Af (by simpa using q2)]
 simp only
 by_cases h1:BJ v=true
 ·have:Ep v=19:=by rw [Ep,Ae h1]
  rw [Ae h1,this];rfl
 rw [Af h1]
 by_cases h2:v.kind<1∨10<v.kind
 ·have:Ep v=11:=by rw [Ep,Af h1,Ae h2]
  rw [Ae (by simpa using h2),this];rfl
 rw [Af (by simpa using h2),ZgG v h2]
 by_cases h3:A1 v=true
 ·have:Ep v=3:=by rw [Ep,Af h1,Af h2,Ae h3]
  rw [h3,this];rfl
 rw [Bool.eq_false_iff.2 h3]
 obtain ⟨l,k,d,h,i,b,j,f,g,a⟩:=ZdH n hn v hfl hs hv h1 h2 h3
 rcases Fe h2 with hk | hk | hk | hk | hk | hk | hk | hk | hk | hk
 ·have e:=l hk;by_cases z:Ep v=0<;>simp [hk,e,z]
 ·have e:=k hk;by_cases z:Ep v=0<;>simp [hk,e,z]
 ·have e:=d hk;by_cases z:Ep v=0<;>simp [hk,e,z]
 ·have e:=h hk;by_cases z:Ep v=0<;>simp [hk,e,z]
 ·have e:=i hk;by_cases z:Ep v=0<;>simp [hk,e,z]
 ·have e:=b hk;by_cases z:Ep v=0<;>simp [hk,e,z]
 ·have e:=j hk;by_cases z:Ep v=0<;>simp [hk,e,z]
 ·have e:=f hk;by_cases z:Ep v=0<;>simp [hk,e,z]
 ·have e:=g hk;by_cases z:Ep v=0<;>simp [hk,e,z]
 ·have e:=a hk;by_cases z:Ep v=0<;>simp [hk,e,z]
def PZ:List (Nat × Vl)→Int→Int
 | [],_=>0
 | p::r,c=>if 4096<c+1 then 9 else if 8<(p.1:Int) then 23 else if Ep p.2=0 then PZ r (c+1) else Ep p.2
def Oo (v:Vl):Int:=PZ (Ff 1 v) 0
theorem Pm {v x:Vl} (h:x∈Bv v):x∈v.list∨∃ p∈v.fields,p.2=x:=by
 unfold Bv at h
 split at h
 ·exact .inl h
 ·split at h
  ·obtain ⟨p,a,rfl⟩:=List.mem_map.1 h;exact .inr ⟨p,a,rfl⟩
  ·simp at h
theorem HW {v x:Vl} (h:x∈Bv v):x.size<v.size:=by
 rcases Pm h with h | ⟨p,hp,rfl⟩
 ·exact v.list_size x h
 ·exact v.field_size p hp
theorem Zel {v x:Vl} (hv:v.ok) (h:x∈Bv v):x.ok:=by
 obtain ⟨_,a,b⟩:=v.ok_eq.1 hv
 rcases Pm h with h | ⟨p,hp,rfl⟩
 ·exact a x h
 ·exact (b p hp).2
theorem Zdd:∀ (k:Nat) (v:Vl) (lv:Nat),v.size≤k→v.ok→∀ p∈Ff lv v,p.2.ok∧p.2.size≤v.size
 | 0,v,lv,h,hv,p,hp=>absurd h (by have:=v.size_eq;omega)
 | k+1,v,lv,h,hv,p,hp=>by
  rw [L9] at hp
  rcases List.mem_cons.1 hp with rfl | hp
  ·exact ⟨hv,Nat.le_refl _⟩
  ·obtain ⟨x,a,hp⟩:=List.mem_flatMap.1 hp
   have:=HW a
   obtain ⟨b,c⟩:=Zdd k x (lv+1) (by omega) (Zel hv a) p hp
   exact ⟨b,by omega⟩
theorem YT:∀ (k:Nat) (v:Vl) (lv:Nat),v.size≤k→v.wide=true→∀ p∈Ff lv v,p.2.wide=true
 | 0,v,lv,h,hv,p,hp=>absurd h (by have:=v.size_eq;omega)
 | k+1,v,lv,h,hv,p,hp=>by
  rw [L9] at hp
  rcases List.mem_cons.1 hp with rfl | hp
  ·exact hv
  ·obtain ⟨x,a,hp⟩:=List.mem_flatMap.1 hp
   have:=HW a
   exact YT k x (lv+1) (by omega) (WX hv a) p hp
theorem PL (v:Vl):v.fields.length<v.size:=by have:=N9 v.fields;have:=v.size_eq;omega
theorem RL (n:Nat) (hn:3≤n):∀ (l:List (Nat × Vl)) (c:Int),(∀ p∈l,p.2.ok∧p.2.fields.length≤1000000000000∧p.2.fields.length<n)→0≤c→c≤4096→B8 n l c=some (PZ l c)
 | [],c,_,_,_=>rfl
 | p::r,c,hl,h1,h2=>by
  obtain ⟨b,d,e⟩:=hl p (List.mem_cons_self ..)
  have:=PL p.2
  rw [show p=(p.1,p.2) from rfl,Zf2 n hn p.1 p.2 r c (by omega) (by omega) b,Ae (by unfold B2;omega),PZ]
  simp only
  split
  ·rfl
  ·split
   ·rfl
   ·split
    ·exact RL n hn r (c+1) (fun q a=>hl q (List.mem_cons_of_mem _ a)) (by omega) (by omega)
    ·rfl
theorem ZaF (n:Nat) (v:Vl) (hn:v.size+3≤n) (hs:v.depth<4611686018427387904) (hw:v.wide=true) (hv:v.ok):FH n v=some (Oo v):=by
 rw [FH,Ae ⟨hs,hw⟩]
 exact RL n (by omega) _ 0 (fun p a=>by obtain ⟨b,c⟩:=Zdd v.size v 1 (Nat.le_refl _) hv p a;exact ⟨b,(p.2.wide_iff.1 (YT v.size v 1 (Nat.le_refl _) hw p a)).2.1,by have:=PL p.2;omega⟩) (by omega) (by omega)
theorem Xb (n:Nat) (v:Vl) (hn:v.size+3≤n) (hs:v.size<1048576) (hv:v.ok):FH n v=some (Oo v) :=
 ZaF n v hn (by have:=v.depth_size;omega) (Hy _ v (Nat.le_refl _) (by omega)) hv
theorem U5:∀ l:List Vl,Ea l=(l.map Vl.size).sum
 | []=>rfl
 | v::r=>by simp [Ea,U5 r]
theorem Ou:∀ l:List (ByteArray × Vl),Db l=(l.map fun p=>p.2.size).sum
 | []=>rfl
 | (_,v)::r=>by simp [Db,Ou r]
theorem ZcL (v:Vl):((Bv v).map Vl.size).sum<v.size:=by
 have c:=v.size_eq
 unfold Bv
 split
 ·rw [←U5];omega
 ·split
  ·rw [List.map_map]
   have:=Ou v.fields
   have e:(v.fields.map (Vl.size∘fun x=>x.2)).sum=Db v.fields:=this.symm
   omega
  ·simp;omega
theorem SZ (l:List Ty) (i:Nat) (h:i<l.length):Hi (l.drop i)=l[i].size+Hi (l.drop (i+1)):=by rw [List.drop_eq_getElem_cons h,Hi]
theorem QF (l:List TF) (i:Nat) (h:i<l.length):EQ (l.drop i)=l[i].2.2.2.1.size+EQ (l.drop (i+1)):=by
 rw [List.drop_eq_getElem_cons h]
 obtain ⟨a,b,c,t,d⟩:=l[i]
 rfl
def Ty.small (t:Ty):Prop:=t.size≤200∧t.depth≤12∧t.ok
def KG (rec:Ty→Vl→Option Bool) (h:Vl) (b:Ty):Option Bool :=
 (Ci b.elem 0).bind fun g =>
 (rec g h).bind fun q =>
 some (!q)
theorem Zao (w0:World) (rec:Ty→Vl→Option Bool) (ih:∀ (B:List (List AV)) (Rw:List RowA) (L:List LoopA) (a0:Ty) (a1:Vl) (r:Bool) (h:rec a0 a1=some r),ACalls Tryz.prog w0 107 [.agg (a0.cs),.agg (a1.cs)] ⟨B,Rw,L⟩ fun x st=>x = .val (.bool r)∧st=⟨B,Rw,L⟩) (B:List (List AV)) (Rw:List RowA) (L:List LoopA) (a0:Vl) (la1:Nat) (a1:Ty) (hla1:B[la1]? = some (a1.cs)) (r:Bool) (h:KG rec a0 a1=some r) :
  ACalls Tryz.prog w0 183 [.agg (a0.cs),.box la1 0] ⟨B,Rw,L⟩ fun x st=>x = .val (.bool r)∧st=⟨B,Rw,L⟩:=by
 rw [KG] at h
 refine hd [.tmp 3] Tryz.func183 Tryz.ntmps183 fun M0 W0 t n p b q o hs=>?_
 simp only [As]
 have g:=(Ag.1 hla1).1
 have hs:=Aa (An hla1) hs
 refine rg [1,2] hs ?_
 obtain ⟨m,i,h⟩:=bind_some h
 obtain ⟨k,l,c⟩:=Aw i
 have a:=Ax (f:=HE) c
 have e:(a1.elem.map HE).getD 0 .junk=_:=a
 obtain ⟨s,j,h⟩:=bind_some h
 have hs:=Aa a hs
 have hs:=Aa e hs
 apply Ah;intro K2 d
 refine dk 8 2 1 [3] hs HD ?_
 refine Ai _ (ih _ _ _ m a0 _ j) (hv hs) ?_
 refine dn hs d ?_
 clear d
 exact rt h hs b o
def GP (n:Nat)  : Option Int :=
 some ((-1))
def BO (n:Nat) (h:List (ByteArray × Vl)) (s:(ByteArray × Vl)→Option Bool):Nat→Int→Option Int
 | 0,_=>none
 | m+1,b =>
  if decide (b<(h.length:Int)) then
   (Ci h b).bind fun q =>
   (s q).bind fun g =>
   if g then
    some (b)
   else
    if B2 (b+1) then
     (BO n h s m) (b+1)
    else none
  else
   GP n 
def CB (n:Nat) (g:List (ByteArray × Vl)) (b:(ByteArray × Vl)→Option Bool):Option Int :=
 BO n g b n 0
theorem IZ (w0:World) (n:Nat) (B:List (List AV)) (Rw:List RowA) (L:List LoopA) (a0:List (ByteArray × Vl)) (fa1:FuncId) (ca1:List AV) (a1:(ByteArray × Vl)→Option Bool) (ha1:∀ (x0:ByteArray × Vl) r,a1 x0=some r→∀ B' rows,B <+: B'→Rw <+: rows→ACalls Tryz.prog w0 fa1 ([.agg (.val (.string x0.1)::(x0.2.cs))]++ca1) ⟨B',rows,L⟩ fun v s=>v = .val (.bool r)∧s=⟨B',rows,L⟩) (r:Int) (h:CB n a0 a1=some r) :
  ACalls Tryz.prog w0 67 [.list (a0.map Cf) .none,.clo fa1 ca1] ⟨B,Rw,L⟩ fun x st=>x = .val (.int .i64 r)∧st=⟨B,Rw,L⟩:=by
 rw [CB] at h
 refine hd [.tmp 4] Tryz.func67 Tryz.ntmps67 fun M0 W0 C t o c F d hs=>?_
 simp only [As]
 have a:=Cm (F (.clo fa1 ca1) (by simp))
 refine rg [0,1] hs ?_
 refine Au (fun e st=>Ck e st B Rw L [] [] [] (GP n  = some r)) ?_ ?_
 ·intro K4 z
  refine rg [0,1,7,8] hs ?_
  apply Ak
  refine Az (fun m e st=>∃ (b:Int),Ck e st B Rw L [(0,true,.list (a0.map Cf) .none),(1,true,.clo fa1 ca1),(7,true,.val (.int .i64 (a0.length:Int))),(8,true,.val (.int .i64 b))] [] [] (BO n a0 a1 m b=some r)) n ⟨0,([]),Rw,ef hs,ef hs,d,h⟩ ?_
  rintro ml6 e st ⟨b,Xl6,Rl6,rfl,rfl,d,h⟩ Ul6 Vl6
  cases ml6 with
  | zero=>cases h
  | succ ml6 =>
  rw [BO] at h
  refine AX C t o rfl c d (Jp a d) (Jp a d) ?_
  refine rg [0,1,7,8,9] hs ?_
  apply Ah;intro K8 q
  refine AK h hs (fun hs h=>?_) (fun hs h=>?_)
  rotate_left
  ·refine sx [] hs z ?_
   exact ⟨([]),Rl6,ef hs,ef hs,d,h⟩
  refine sk [0,1,7,8] hs q ?_
  clear q
  apply Ah;intro K10 g
  apply Ak
  refine rg [0,1,5,7,8] hs ?_
  obtain ⟨y,l,h⟩:=bind_some h
  obtain ⟨w,u,k⟩:=Aw l
  have j:=Ax (f:=Cf) k
  obtain ⟨E,p,h⟩:=bind_some h
  have hs:=Aa j hs
  refine rc 2 [0,1,5,7,8,16] hs ?_;intro K12 i
  refine Gq _ (ha1 y _ p _ _ px d.pre) (hv hs) ?_
  refine ne hs i ?_
  clear i
  refine AK h hs (fun hs h=>?_) (fun hs h=>?_)
  ·refine rg [4] hs ?_
   exact rt h hs c d
  refine sk [0,1,7,8] hs g ?_
  clear g
  obtain ⟨D,h⟩:=Aj h
  refine rl [0,1,7,8] hs (fun e s=>Vl6 ml6 e s (Nat.lt_succ_self _)) ?_
  exact ⟨(b+1),([]),Rl6,ef hs,ef hs,d,h⟩
 ·clear h;rintro e st ⟨Xk3,Rk3,rfl,rfl,d,h⟩
  rw [GP] at h
  refine AX C t o rfl c d (Jp a d) (Jp a d) ?_
  refine rg [4] hs ?_
  exact rt h hs c d
def G1 (g:ByteArray × Vl) (b:ByteArray):Bool :=
 DR g.1 b
theorem Yv (w0:World) (B:List (List AV)) (Rw:List RowA) (L:List LoopA) (a0:ByteArray × Vl) (la1:Nat) (a1:ByteArray) (hla1:B[la1]? = some ([.val (.string a1)])) (r:Bool) (h:G1 a0 a1=r) :
  ACalls Tryz.prog w0 124 [.agg (.val (.string a0.1)::(a0.2.cs)),.box la1 0] ⟨B,Rw,L⟩ fun x st=>x = .val (.bool r)∧st=⟨B,Rw,L⟩:=by
 rw [G1] at h
 refine hd [.tmp 3] Tryz.func124 Tryz.ntmps124 fun M0 W0 g c e a f d hs=>?_
 simp only [As]
 have b:=(Ag.1 hla1).1
 have hs:=Aa (An hla1) hs
 refine rg [1,2] hs ?_
 refine rg [3] hs ?_
 exact rT h hs a d
theorem We (w0:World) (B:List (List AV)) (Rw:List RowA) (L:List LoopA) (a0:ByteArray × Vl) (la1:Nat) (a1:ByteArray) (hla1:B[la1]? = some ([.val (.string a1)])) :
  ACalls Tryz.prog w0 124 [.agg (.val (.string a0.1)::(a0.2.cs)),.box la1 0] ⟨B,Rw,L⟩ fun x st=>x = .val (.bool (G1 a0 a1))∧st=⟨B,Rw,L⟩:=Yv w0 B Rw L a0 la1 a1 hla1 _ rfl
def MW (n:Nat) (g:Vl) (b:ByteArray):Option Int :=
 (CB n g.fields (fun (h:ByteArray × Vl)=>some (G1 h b))).bind fun q =>
 some (q)
theorem Zap (w0:World) (n:Nat) (B:List (List AV)) (Rw:List RowA) (L:List LoopA) (a0:Vl) (a1:ByteArray) (r:Int) (h:MW n a0 a1=some r) :
  ACalls Tryz.prog w0 64 [.agg (a0.cs),.val (.string a1)] ⟨B,Rw,L⟩ fun x st=>x = .val (.int .i64 r)∧st=⟨B,Rw,L⟩:=by
 rw [MW] at h
 refine hd [.tmp 4] Tryz.func64 Tryz.ntmps64 fun M0 W0 j d f a i e hs=>?_
 simp only [As]
 refine rg [2,3] hs ?_
 obtain ⟨l,hy3,h⟩:=bind_some h
 refine rc 2 [4] hs ?_;intro K2 b
 refine Ai _ (IZ w0 n _ _ _ a0.fields 124 [.box (B.length+1) 0] (fun (x0:ByteArray × Vl)=>some (G1 x0 a1)) (fun x0 r hx k c hB' g=>by cases hx;exact We w0 _ _ _ x0 _ a1 (DW hB' ev)) _ hy3) (hv hs) ?_
 refine ne hs b ?_
 clear b
 exact rt h hs a e
def Hr (n:Nat) (b:Vl) (q:ByteArray):Option (Vl × Bool) :=
 (MW n b q).bind fun h =>
 if (!(decide (b.kind=9)))||(decide (h<0)) then
  some ((Vl.mk 0 0 0 ((⟨#[]⟩:ByteArray)) ([]) ([]),false))
 else
  (Ci b.fields h).bind fun s =>
  (BU n s.2).bind fun g =>
  some ((g,true))
theorem Qn (w0:World) (n:Nat) (B:List (List AV)) (Rw:List RowA) (L:List LoopA) (a0:Vl) (a1:ByteArray) (r:Vl × Bool) (h:Hr n a0 a1=some r) :
  ACalls Tryz.prog w0 185 [.agg (a0.cs),.val (.string a1)] ⟨B,Rw,L⟩ fun x st=>x = .tup [.agg (r.1.cs),.val (.bool r.2)]∧st=⟨B,Rw,L⟩:=by
 rw [Hr] at h
 refine hd [.cell 4 46,.tmp 5] Tryz.func185 Tryz.ntmps185 fun M0 W0 w t p a v o hs=>?_
 simp only [As]
 refine rg [1,2,4] hs ?_
 obtain ⟨u,j,h⟩:=bind_some h
 refine rc 2 [2,4,6] hs ?_;intro K2 c
 refine Ai _ (Zap w0 n _ _ _ a0 a1 _ j) (hv hs) ?_
 refine ne hs c ?_
 clear c
 apply Ah;intro K4 i
 refine rg [2,4,6,16] hs ?_
 refine AK h hs (fun hs h=>?_) (fun hs h=>?_)
 ·refine rg [4,5] hs ?_
  exact rt h hs a o
 refine sk [2,4,6] hs i ?_
 clear i
 obtain ⟨s,k,h⟩:=bind_some h
 obtain ⟨l,m,g⟩:=Aw k
 have b:=Ax (f:=Cf) g
 obtain ⟨q,e,h⟩:=bind_some h
 have hs:=Aa b hs
 refine rc 2 [4,5] hs ?_;intro K8 d
 refine Ai _ (G3 w0 n _ _ _ s.2 _ e) (hv hs) ?_
 refine ne hs d ?_
 clear d
 exact rt h hs a o
def KI (n:Nat) (b:Int × ByteArray × Int × Ty × List Vl) (g:Vl):Option Bool :=
 (Hr n g b.2.1).bind fun h =>
 some ((!h.2)&&(!(decide (b.2.2.1=2))))
theorem Za1 (w0:World) (n:Nat) (B:List (List AV)) (Rw:List RowA) (L:List LoopA) (a0:Int × ByteArray × Int × Ty × List Vl) (la1:Nat) (a1:Vl) (hla1:B[la1]? = some (a1.cs)) (r:Bool) (h:KI n a0 a1=some r) :
  ACalls Tryz.prog w0 184 [.agg (.val (.int .i64 a0.1)::(.val (.string a0.2.1)::(.val (.int .i64 a0.2.2.1)::((a0.2.2.2.1.cs)++([.list (a0.2.2.2.2.map Bq) .none]))))),.box la1 0] ⟨B,Rw,L⟩ fun x st=>x = .val (.bool r)∧st=⟨B,Rw,L⟩:=by
 rw [KI] at h
 refine hd [.tmp 3] Tryz.func184 Tryz.ntmps184 fun M0 W0 j e g a i f hs=>?_
 simp only [As]
 have c:=(Ag.1 hla1).1
 have hs:=Aa (An hla1) hs
 refine rg [1,2] hs ?_
 obtain ⟨k,d,h⟩:=bind_some h
 refine rc 2 [2,5] hs ?_;intro K2 b
 refine Ai _ (Qn w0 n _ _ _ a1 a0.2.1 _ d) (hv hs) ?_
 refine ne hs b ?_
 clear b
 refine rg [3] hs ?_
 exact rt h hs a f
def AG (n:Nat) (g:List (Int × ByteArray × Int × Ty × List Vl)) (b:(Int × ByteArray × Int × Ty × List Vl)→Option Bool):Option Bool :=
 (A3 n g b).bind fun h =>
 some (decide (0≤h))
theorem B1 (w0:World) (n:Nat) (B:List (List AV)) (Rw:List RowA) (L:List LoopA) (a0:List (Int × ByteArray × Int × Ty × List Vl)) (fa1:FuncId) (ca1:List AV) (a1:(Int × ByteArray × Int × Ty × List Vl)→Option Bool) (ha1:∀ (x0:Int × ByteArray × Int × Ty × List Vl) r,a1 x0=some r→∀ B' rows,B <+: B'→Rw <+: rows→ACalls Tryz.prog w0 fa1 ([.agg (.val (.int .i64 x0.1)::(.val (.string x0.2.1)::(.val (.int .i64 x0.2.2.1)::((x0.2.2.2.1.cs)++([.list (x0.2.2.2.2.map Bq) .none])))))]++ca1) ⟨B',rows,L⟩ fun v s=>v = .val (.bool r)∧s=⟨B',rows,L⟩) (r:Bool) (h:AG n a0 a1=some r) :
  ACalls Tryz.prog w0 150 [.list (a0.map CJ) .none,.clo fa1 ca1] ⟨B,Rw,L⟩ fun x st=>x = .val (.bool r)∧st=⟨B,Rw,L⟩:=by
 rw [AG] at h
 refine hd [.tmp 4] Tryz.func150 Tryz.ntmps150 fun M0 W0 p j l b i g hs=>?_
 simp only [As]
 have e:=Cm (i (.clo fa1 ca1) (by simp))
 refine rg [0,1] hs ?_
 obtain ⟨q,f,h⟩:=bind_some h
 refine rc 2 [4] hs ?_;intro K2 c
 refine Ai _ (DO w0 n _ _ _ a0 fa1 ca1 a1 (fun x0 r k d a m o=>ha1 x0 r k d a (List.IsPrefix.trans px m) (g.pre.trans o)) _ f) (hv hs) ?_
 refine ne hs c ?_
 clear c
 exact rt h hs b g
def GO (n:Nat)  : Option Int :=
 some ((-1))
def B7 (n:Nat) (h:List Vl) (s:Vl→Option Bool):Nat→Int→Option Int
 | 0,_=>none
 | m+1,b =>
  if decide (b<(h.length:Int)) then
   (Ci h b).bind fun q =>
   (s q).bind fun g =>
   if g then
    some (b)
   else
    if B2 (b+1) then
     (B7 n h s m) (b+1)
    else none
  else
   GO n 
def E6 (n:Nat) (g:List Vl) (b:Vl→Option Bool):Option Int :=
 B7 n g b n 0
theorem Ol (w0:World) (n:Nat) (B:List (List AV)) (Rw:List RowA) (L:List LoopA) (a0:List Vl) (fa1:FuncId) (ca1:List AV) (a1:Vl→Option Bool) (ha1:∀ (x0:Vl) r,a1 x0=some r→∀ B' rows,B <+: B'→Rw <+: rows→ACalls Tryz.prog w0 fa1 ([.agg (x0.cs)]++ca1) ⟨B',rows,L⟩ fun v s=>v = .val (.bool r)∧s=⟨B',rows,L⟩) (r:Int) (h:E6 n a0 a1=some r) :
  ACalls Tryz.prog w0 225 [.list (a0.map Bq) .none,.clo fa1 ca1] ⟨B,Rw,L⟩ fun x st=>x = .val (.int .i64 r)∧st=⟨B,Rw,L⟩:=by
 rw [E6] at h
 refine hd [.tmp 4] Tryz.func225 Tryz.ntmps225 fun M0 W0 C t o c F d hs=>?_
 simp only [As]
 have a:=Cm (F (.clo fa1 ca1) (by simp))
 refine rg [0,1] hs ?_
 refine Au (fun e st=>Ck e st B Rw L [] [] [] (GO n  = some r)) ?_ ?_
 ·intro K4 z
  refine rg [0,1,7,8] hs ?_
  apply Ak
  refine Az (fun m e st=>∃ (b:Int),Ck e st B Rw L [(0,true,.list (a0.map Bq) .none),(1,true,.clo fa1 ca1),(7,true,.val (.int .i64 (a0.length:Int))),(8,true,.val (.int .i64 b))] [] [] (B7 n a0 a1 m b=some r)) n ⟨0,([]),Rw,ef hs,ef hs,d,h⟩ ?_
  rintro ml6 e st ⟨b,Xl6,Rl6,rfl,rfl,d,h⟩ Ul6 Vl6
  cases ml6 with
  | zero=>cases h
  | succ ml6 =>
  rw [B7] at h
  refine AX C t o rfl c d (Jp a d) (Jp a d) ?_
  refine rg [0,1,7,8,9] hs ?_
  apply Ah;intro K8 q
  refine AK h hs (fun hs h=>?_) (fun hs h=>?_)
  rotate_left
  ·refine sx [] hs z ?_
   exact ⟨([]),Rl6,ef hs,ef hs,d,h⟩
  refine sk [0,1,7,8] hs q ?_
  clear q
  apply Ah;intro K10 g
  apply Ak
  refine rg [0,1,5,7,8] hs ?_
  obtain ⟨y,l,h⟩:=bind_some h
  obtain ⟨w,u,k⟩:=Aw l
  have j:=Ax (f:=Bq) k
  obtain ⟨E,p,h⟩:=bind_some h
  have hs:=Aa j hs
  refine rc 2 [0,1,5,7,8,16] hs ?_;intro K12 i
  refine Gq _ (ha1 y _ p _ _ px d.pre) (hv hs) ?_
  refine ne hs i ?_
  clear i
  refine AK h hs (fun hs h=>?_) (fun hs h=>?_)
  ·refine rg [4] hs ?_
   exact rt h hs c d
  refine sk [0,1,7,8] hs g ?_
  clear g
  obtain ⟨D,h⟩:=Aj h
  refine rl [0,1,7,8] hs (fun e s=>Vl6 ml6 e s (Nat.lt_succ_self _)) ?_
  exact ⟨(b+1),([]),Rl6,ef hs,ef hs,d,h⟩
 ·clear h;rintro e st ⟨Xk3,Rk3,rfl,rfl,d,h⟩
  rw [GO] at h
  refine AX C t o rfl c d (Jp a d) (Jp a d) ?_
  refine rg [4] hs ?_
  exact rt h hs c d
def Dm (n:Nat) (g:List Vl) (b:Vl→Option Bool):Option Bool :=
 (E6 n g b).bind fun h =>
 some (decide (0≤h))
theorem MH (w0:World) (n:Nat) (B:List (List AV)) (Rw:List RowA) (L:List LoopA) (a0:List Vl) (fa1:FuncId) (ca1:List AV) (a1:Vl→Option Bool) (ha1:∀ (x0:Vl) r,a1 x0=some r→∀ B' rows,B <+: B'→Rw <+: rows→ACalls Tryz.prog w0 fa1 ([.agg (x0.cs)]++ca1) ⟨B',rows,L⟩ fun v s=>v = .val (.bool r)∧s=⟨B',rows,L⟩) (r:Bool) (h:Dm n a0 a1=some r) :
  ACalls Tryz.prog w0 182 [.list (a0.map Bq) .none,.clo fa1 ca1] ⟨B,Rw,L⟩ fun x st=>x = .val (.bool r)∧st=⟨B,Rw,L⟩:=by
 rw [Dm] at h
 refine hd [.tmp 4] Tryz.func182 Tryz.ntmps182 fun M0 W0 p j l b i g hs=>?_
 simp only [As]
 have e:=Cm (i (.clo fa1 ca1) (by simp))
 refine rg [0,1] hs ?_
 obtain ⟨q,f,h⟩:=bind_some h
 refine rc 2 [4] hs ?_;intro K2 c
 refine Ai _ (Ol w0 n _ _ _ a0 fa1 ca1 a1 (fun x0 r k d a m o=>ha1 x0 r k d a (List.IsPrefix.trans px m) (g.pre.trans o)) _ f) (hv hs) ?_
 refine ne hs c ?_
 clear c
 exact rt h hs b g
def H5 (n:Nat)  : Option Int :=
 some ((-1))
def C6 (n:Nat) (g:List ByteArray) (q:ByteArray):Nat→Int→Option Int
 | 0,_=>none
 | m+1,b =>
  if decide (b<(g.length:Int)) then
   (Ci g b).bind fun h =>
   if DR q h then
    some (b)
   else
    if B2 (b+1) then
     (C6 n g q m) (b+1)
    else none
  else
   H5 n 
def GR (n:Nat) (g:List ByteArray) (b:ByteArray):Option Int :=
 C6 n g b n 0
theorem Qr (w0:World) (n:Nat) (B:List (List AV)) (Rw:List RowA) (L:List LoopA) (a0:List ByteArray) (a1:ByteArray) (r:Int) (h:GR n a0 a1=some r) :
  ACalls Tryz.prog w0 190 [.list (a0.map NJ) .none,.val (.string a1)] ⟨B,Rw,L⟩ fun x st=>x = .val (.int .i64 r)∧st=⟨B,Rw,L⟩:=by
 rw [GR] at h
 refine hd [.tmp 4] Tryz.func190 Tryz.ntmps190 fun M0 W0 v o k b y c hs=>?_
 simp only [As]
 refine rg [0,1] hs ?_
 refine Au (fun e st=>Ck e st B Rw L [] [] [] (H5 n  = some r)) ?_ ?_
 ·intro K4 t
  refine rg [0,1,7,8] hs ?_
  apply Ak
  refine Az (fun m e st=>∃ (a:Int),Ck e st B Rw L [(0,true,.list (a0.map NJ) .none),(1,true,.val (.string a1)),(7,true,.val (.int .i64 (a0.length:Int))),(8,true,.val (.int .i64 a))] [] [] (C6 n a0 a1 m a=some r)) n ⟨0,([]),Rw,ef hs,ef hs,c,h⟩ ?_
  rintro ml6 e st ⟨a,Xl6,Rl6,rfl,rfl,c,h⟩ Ul6 Vl6
  cases ml6 with
  | zero=>cases h
  | succ ml6 =>
  rw [C6] at h
  refine td v o k b c ?_
  refine rg [0,1,7,8,9] hs ?_
  apply Ah;intro K8 l
  refine AK h hs (fun hs h=>?_) (fun hs h=>?_)
  rotate_left
  ·refine sx [] hs t ?_
   exact ⟨([]),Rl6,ef hs,ef hs,c,h⟩
  refine sk [0,1,7,8] hs l ?_
  clear l
  apply Ah;intro K10 d
  apply Ak
  refine rg [0,1,5,7,8] hs ?_
  obtain ⟨w,j,h⟩:=bind_some h
  obtain ⟨q,p,i⟩:=Aw j
  have g:=Ax (f:=NJ) i
  have hs:=Aa g hs
  refine rg [0,1,5,7,8,16] hs ?_
  refine AK h hs (fun hs h=>?_) (fun hs h=>?_)
  ·refine rg [4] hs ?_
   exact rt h hs b c
  refine sk [0,1,7,8] hs d ?_
  clear d
  obtain ⟨u,h⟩:=Aj h
  refine rl [0,1,7,8] hs (fun e s=>Vl6 ml6 e s (Nat.lt_succ_self _)) ?_
  exact ⟨(a+1),([]),Rl6,ef hs,ef hs,c,h⟩
 ·clear h;rintro e st ⟨Xk3,Rk3,rfl,rfl,c,h⟩
  rw [H5] at h
  refine td v o k b c ?_
  refine rg [4] hs ?_
  exact rt h hs b c
def BG (n:Nat) (g:List ByteArray) (b:ByteArray):Option Bool :=
 (GR n g b).bind fun h =>
 some (decide (0≤h))
theorem ER (w0:World) (n:Nat) (B:List (List AV)) (Rw:List RowA) (L:List LoopA) (a0:List ByteArray) (a1:ByteArray) (r:Bool) (h:BG n a0 a1=some r) :
  ACalls Tryz.prog w0 131 [.list (a0.map NJ) .none,.val (.string a1)] ⟨B,Rw,L⟩ fun x st=>x = .val (.bool r)∧st=⟨B,Rw,L⟩:=by
 rw [BG] at h
 refine hd [.tmp 4] Tryz.func131 Tryz.ntmps131 fun M0 W0 i d f a g e hs=>?_
 simp only [As]
 refine rg [0,1] hs ?_
 obtain ⟨j,c,h⟩:=bind_some h
 refine rc 2 [4] hs ?_;intro K2 b
 refine Ai _ (Qr w0 n _ _ _ a0 a1 _ c) (hv hs) ?_
 refine ne hs b ?_
 clear b
 exact rt h hs a e
def Py (rec:Ty→Vl→Option Bool) (n:Nat) (h:Ty) (g:Vl):Option Bool :=
 (AG n h.fields (fun (q:Int × ByteArray × Int × Ty × List Vl)=>KI n q g)).bind fun b =>
 some (!b)
def Rt (rec:Ty→Vl→Option Bool) (n:Nat)  : Option Bool :=
 some (true)
def It (rec:Ty→Vl→Option Bool) (n:Nat) (y:Ty) (q:Vl):Nat→Int→Option Bool
 | 0,_=>none
 | m+1,b =>
  if decide (b<(q.fields.length:Int)) then
   (Ci q.fields b).bind fun h =>
   (Jc n y h.1).bind fun g =>
   if !g.2 then
    some (false)
   else
    (rec g.1.2.2.2.1 h.2).bind fun s =>
    if !s then
     some (false)
    else
     if B2 (b+1) then
      (It rec n y q m) (b+1)
     else none
  else
   Py rec n y q 
def Do (rec:Ty→Vl→Option Bool) (n:Nat) (b:Ty) (g:Vl) (h:Bool):Option Bool :=
 if h then
  some ((decide (b.min≤g.int)&&decide (g.int≤b.max))&&(decide (g.scale=b.scale)))
 else
  if decide (b.kind=4) then
   if decide (0<(b.words.length:Int)) then
    (BG n b.words g.text).bind fun s =>
    some (s)
   else
    some (decide (b.min≤(g.text.size:Int))&&decide ((g.text.size:Int)≤b.max))
  else
   if decide (b.kind=5) then
    some (decide (b.min≤(g.text.size:Int))&&decide ((g.text.size:Int)≤b.max))
   else
    if decide (b.kind=8) then
     if decide (b.min≤(g.list.length:Int))&&decide ((g.list.length:Int)≤b.max) then
      (Dm n g.list (fun (x0:Vl)=>KG rec x0 b)).bind fun y =>
      some (!y)
     else
      some (false)
    else
     if decide (b.kind=10) then
      (Jc n b g.text).bind fun q =>
      if q.2 then
       (Ci g.list 0).bind fun x43 =>
       (rec q.1.2.2.2.1 x43).bind fun y44 =>
       some (y44)
      else
       some (false)
     else
      if decide (b.kind=9) then
       It rec n b g n 0
      else
       Rt rec n 
def TQ (rec:Ty→Vl→Option Bool) (n:Nat) (b:Ty) (g:Vl):Option Bool :=
 if !(decide (g.kind=b.kind)) then
  some (false)
 else
  if decide (b.kind=2) then
   Do rec n b g true
  else
   if decide (b.kind=6) then
    Do rec n b g true
   else
    if decide (b.kind=7) then
     Do rec n b g true
    else
     Do rec n b g (decide (b.kind=3))
def Jr:Nat→Ty→Vl→Option Bool
 | 0,_,_=>none
 | n+1,g,b=>TQ (Jr n) n g b
def X9 (w0:World) (F:Ty→Vl→Option Bool):Prop:=∀ (B:List (List AV)) (Rw:List RowA) (L:List LoopA) (g:Ty) (b:Vl) (r:Bool),F g b=some r→ACalls Tryz.prog w0 107 [.agg (g.cs),.agg (b.cs)] ⟨B,Rw,L⟩ fun x st=>x = .val (.bool r)∧st=⟨B,Rw,L⟩
theorem ZaY (w0:World) (rec:Ty→Vl→Option Bool) (ih:X9 w0 rec) (n:Nat):X9 w0 (TQ rec n):=by
 intro B Rw L a0 a1 r h
 rw [TQ] at h
 refine hd [.tmp 4] Tryz.func107 Tryz.ntmps107 fun M0 W0 hN q p a hu c hs=>?_
 simp only [As]
 refine rg [2,3] hs ?_
 apply Ah;intro K2 Y
 refine rg [2,3,15] hs ?_
 refine AK h hs (fun hs h=>?_) (fun hs h=>?_)
 ·refine rg [4] hs ?_
  exact rt h hs a c
 refine sk [2,3] hs Y ?_
 clear Y
 refine Au (fun e st=>Ck e st B Rw L [] [a0.cs,a1.cs] [] (Rt rec n  = some r)) ?_ ?_
 ·intro K8 aj
  refine rg [2,3,17] hs ?_
  apply Ak
  refine Au (fun e st=>∃ (d:Bool),Ck e st B Rw L [(2,true,.box B.length 0),(3,true,.box (B.length+1) 0),(17,true,.val (.int .i64 a0.kind)),(18,true,.val (.bool d))] [a0.cs,a1.cs] [] (Do rec n a0 a1 d=some r)) ?_ ?_
  ·intro K12 j
   refine rg [2,3,17,18] hs ?_
   refine AK h hs (fun hs h=>?_) (fun hs h=>?_)
   ·refine sk [2,3,17,18] hs j ?_
    exact ⟨true,([]),Rw,ef hs,ef hs,c,h⟩
   refine rg [2,3,17,18] hs ?_
   refine AK h hs (fun hs h=>?_) (fun hs h=>?_)
   ·refine sk [2,3,17,18] hs j ?_
    exact ⟨true,([]),Rw,ef hs,ef hs,c,h⟩
   refine rg [2,3,17,18] hs ?_
   refine AK h hs (fun hs h=>?_) (fun hs h=>?_)
   ·refine sk [2,3,17,18] hs j ?_
    exact ⟨true,([]),Rw,ef hs,ef hs,c,h⟩
   refine rl [2,3,17,18] hs j ?_
   exact ⟨(decide (a0.kind=3)),([]),Rw,ef hs,ef hs,c,h⟩
  ·clear h;rintro e st ⟨d,Xk11,Rk11,rfl,rfl,c,h⟩
   rw [Do] at h
   refine td hN q p a c ?_
   refine AK h hs (fun hs h=>?_) (fun hs h=>?_)
   ·refine rc 2 [4] hs ?_;intro K20 E
    refine Ai _ (QR w0 _ _ _ a1.int a0.min a0.max) (hv hs) ?_
    refine ne hs E ?_
    clear E
    exact rt h hs a c
   refine rg [2,3,17,37] hs ?_
   refine AK h hs (fun hs h=>?_) (fun hs h=>?_)
   ·apply Ah;intro K23 C
    refine rg [2,3,42] hs ?_
    refine AK h hs (fun hs h=>?_) (fun hs h=>?_)
    ·obtain ⟨ax,ad,h⟩:=bind_some h
     refine rc 2 [4] hs ?_;intro K26 z
     refine Ai _ (ER w0 n _ _ _ a0.words a1.text _ ad) (hv hs) ?_
     refine ne hs z ?_
     clear z
     exact rt h hs a c
    refine sk [2,3] hs C ?_
    clear C
    refine rc 2 [4] hs ?_;intro K28 F
    refine Ai _ (QR w0 _ _ _ (a1.text.size:Int) a0.min a0.max) (hv hs) ?_
    refine ne hs F ?_
    clear F
    exact rt h hs a c
   refine rg [2,3,17,56] hs ?_
   refine AK h hs (fun hs h=>?_) (fun hs h=>?_)
   ·refine rc 2 [4] hs ?_;intro K31 x
    refine Ai _ (QR w0 _ _ _ (a1.text.size:Int) a0.min a0.max) (hv hs) ?_
    refine ne hs x ?_
    clear x
    exact rt h hs a c
   refine rg [2,3,17,66] hs ?_
   refine AK h hs (fun hs h=>?_) (fun hs h=>?_)
   ·apply Ah;intro K34 l
    rcases Bool.eq_false_or_eq_true (decide (a0.min≤(a1.list.length:Int))&&decide ((a1.list.length:Int)≤a0.max)) with hf35 | hf35
    ·replace h:=AY h hf35
     obtain ⟨ar,aa,h⟩:=bind_some h
     have hs:=Aa hf35 hs
     refine rk 3 [4] hs ?_
     refine Ai _ (QR w0 _ _ _ (a1.list.length:Int) a0.min a0.max) (hv hs) ?_
     refine nc hs ?_
     refine Ai _ (MH w0 n _ _ _ a1.list 183 [.box B.length 0] (fun (J:Vl)=>KG rec J a0) (fun J r hx B' G H ap=>by exact Zao w0 rec ih _ _ _ J _ a0 (DW H (ef hs)) _ hx) _ aa) (hv hs) ?_
     refine ne hs l ?_
     clear l
     exact rt h hs a c
    ·replace h:=AZ h hf35
     have hs:=Aa hf35 hs
     refine rk 3 [4] hs ?_
     refine Ai _ (QR w0 _ _ _ (a1.list.length:Int) a0.min a0.max) (hv hs) ?_
     refine nc hs ?_
     refine AC ?_
     refine ne hs l ?_
     clear l
     exact rt h hs a c
   refine rg [2,3,17,83] hs ?_
   refine AK h hs (fun hs h=>?_) (fun hs h=>?_)
   ·obtain ⟨Q,Z,h⟩:=bind_some h
    refine rc 2 [3,5,6] hs ?_;intro K39 D
    refine Ai _ (Qv w0 n _ _ _ a0 a1.text _ Z) (hv hs) ?_
    refine ne hs D ?_
    clear D
    apply Ah;intro K41 k
    rcases Bool.eq_false_or_eq_true (Q.2) with hf42 | hf42
    ·replace h:=AY h hf42
     obtain ⟨ai,ao,am,o,h⟩:=ix Bq h
     have O:(a1.list.map Bq).getD 0 .junk=_:=o
     obtain ⟨av,ab,h⟩:=bind_some h
     have hs:=Aa hf42 hs
     have hs:=Aa o hs
     have hs:=Aa O hs
     refine dk 11 2 1 [4] hs HD ?_
     refine Ai _ (ih _ _ _ Q.1.2.2.2.1 ai _ ab) (hv hs) ?_
     refine dn hs k ?_
     clear k
     exact rt h hs a c
    ·replace h:=AZ h hf42
     have hs:=Aa hf42 hs
     refine dk 11 2 1 [4] hs HD ?_
     refine AC ?_
     refine dn hs k ?_
     clear k
     exact rt h hs a c
   refine rg [2,3,102] hs ?_
   refine AK h hs (fun hs h=>?_) (fun hs h=>?_)
   ·refine Au (fun e st=>Ck e st B Rw L [(2,true,.box B.length 0),(3,true,.box (B.length+1) 0)] [a0.cs,a1.cs] [] (Py rec n a0 a1  = some r)) ?_ ?_
    ·intro K49 U
     refine rg [2,3,105,106,107] hs ?_
     apply Ak
     refine Az (fun m e st=>∃ (b:Int),Ck e st B Rw L [(2,true,.box B.length 0),(3,true,.box (B.length+1) 0),(105,true,.list (a1.fields.map Cf) .none),(106,true,.val (.int .i64 (a1.fields.length:Int))),(107,true,.val (.int .i64 b))] [a0.cs,a1.cs] [] (It rec n a0 a1 m b=some r)) n ⟨0,([]),Rk11,ef hs,ef hs,c,h⟩ ?_
     rintro ml51 e st ⟨b,Xl51,Rl51,rfl,rfl,c,h⟩ Ul51 Vl51
     cases ml51 with
     | zero=>cases h
     | succ ml51 =>
     rw [It] at h
     refine td hN q p a c ?_
     refine rg [2,3,105,106,107,108] hs ?_
     apply Ah;intro K53 y
     refine AK h hs (fun hs h=>?_) (fun hs h=>?_)
     rotate_left
     ·refine sx [2,3] hs U ?_
      exact ⟨([]),Rl51,ef hs,ef hs,c,h⟩
     refine sk [2,3,105,106,107] hs y ?_
     clear y
     apply Ah;intro K55 w
     apply Ak
     obtain ⟨t,V,h⟩:=bind_some h
     obtain ⟨ak,ah,N⟩:=Aw V
     have K:=Ax (f:=Cf) N
     have hs:=Aa K hs
     refine rg [2,3,8,105,106,107] hs ?_
     obtain ⟨g,ae,h⟩:=bind_some h
     refine rc 2 [2,3,8,9,10,105,106,107] hs ?_;intro K58 u
     refine Ai _ (Qv w0 n _ _ _ a0 t.1 _ ae) (hv hs) ?_
     refine ne hs u ?_
     clear u
     apply Ah;intro K60 i
     rcases Bool.eq_false_or_eq_true (!g.2) with hf61 | hf61
     ·replace h:=AY h hf61
      have hs:=Aa hf61 hs
      refine rk 2 [2,3,105,106,107,127] hs ?_
      refine AC ?_
      refine ne hs i ?_
      clear i
      refine A7 true ev (ef hs) (fun hb62=>?_) (fun hb62=>by cases hb62)
      refine rg [4] hs ?_
      exact rt h hs a c
     ·replace h:=AZ h hf61
      obtain ⟨au,af,h⟩:=bind_some h
      have hs:=Aa hf61 hs
      refine rk 2 [2,3,105,106,107,127] hs ?_
      refine Ai _ (ih _ _ _ g.1.2.2.2.1 t.2 _ af) (hv hs) ?_
      refine ne hs i ?_
      clear i
      refine AK h hs (fun hs h=>?_) (fun hs h=>?_)
      ·refine rg [4] hs ?_
       exact rt h hs a c
      refine sk [2,3,105,106,107] hs w ?_
      clear w
      obtain ⟨aq,h⟩:=Aj h
      refine rl [2,3,105,106,107] hs (fun e s=>Vl51 ml51 e s (Nat.lt_succ_self _)) ?_
      exact ⟨(b+1),([.val (.string t.1)::(t.2.cs),.val (.int .i64 g.1.1)::(.val (.string g.1.2.1)::(.val (.int .i64 g.1.2.2.1)::((g.1.2.2.2.1.cs)++([.list (g.1.2.2.2.2.map Bq) .none]))))]),Rl51,ef hs,ef hs,c,h⟩
    ·clear h;rintro e st ⟨Xk48,Rk48,rfl,rfl,c,h⟩
     rw [Py] at h
     refine td hN q p a c ?_
     obtain ⟨aw,ag,h⟩:=bind_some h
     refine rc 2 [4] hs ?_;intro K68 v
     refine Ai _ (B1 w0 n _ _ _ a0.fields 184 [.box (B.length+1) 0] (fun (J:Int × ByteArray × Int × Ty × List Vl)=>KI n J a1) (fun J r hx B' G H ap=>by exact Za1 w0 n _ _ _ J _ a1 (DW H (ef hs)) _ hx) _ ag) (hv hs) ?_
     refine ne hs v ?_
     clear v
     exact rt h hs a c
   refine sk [] hs aj ?_
   exact ⟨([]),Rk11,ef hs,ef hs,c,h⟩
 ·clear h;rintro e st ⟨Xk7,Rk7,rfl,rfl,c,h⟩
  rw [Rt] at h
  refine td hN q p a c ?_
  refine rg [4] hs ?_
  exact rt h hs a c
theorem YC (w0:World):∀ n:Nat,X9 w0 (Jr n)
 | 0=>fun _ _ _ _ _ _ h=>(nomatch h)
 | n+1=>ZaY w0 (Jr n) (YC w0 n) n
def JQ (n:Nat) (h:Ty) (b:Vl):Option Bool :=
 (FH n b).bind fun q =>
 if decide (q=0) then
  (Jr n h b).bind fun g =>
  some (g)
 else
  some (false)
theorem Xw (w0:World) (hT:Lib.Utf8Tabs 0 1 w0) (n:Nat) (B:List (List AV)) (Rw:List RowA) (L:List LoopA) (a0:Ty) (a1:Vl) (r:Bool) (h:JQ n a0 a1=some r) :
  ACalls Tryz.prog w0 59 [.agg (a0.cs),.agg (a1.cs)] ⟨B,Rw,L⟩ fun x st=>x = .val (.bool r)∧st=⟨B,Rw,L⟩:=by
 rw [JQ] at h
 refine hd [.tmp 4] Tryz.func59 Tryz.ntmps59 fun M0 W0 l f i a k e hs=>?_
 simp only [As]
 refine rg [2,3] hs ?_
 apply Ah;intro K2 b
 obtain ⟨g,c,h⟩:=bind_some h
 rcases Bool.eq_false_or_eq_true (decide (g=0)) with hf4 | hf4
 ·replace h:=AY h hf4
  obtain ⟨j,d,h⟩:=bind_some h
  have hs:=Aa hf4 hs
  refine rk 3 [4] hs ?_
  refine Ai _ (Nr w0 hT n _ _ _ a1 _ c) (hv hs) ?_
  refine nc hs ?_
  refine Ai _ (YC w0 n _ _ _ a0 a1 _ d) (hv hs) ?_
  refine ne hs b ?_
  clear b
  exact rt h hs a e
 ·replace h:=AZ h hf4
  have hs:=Aa hf4 hs
  refine rk 3 [4] hs ?_
  refine Ai _ (Nr w0 hT n _ _ _ a1 _ c) (hv hs) ?_
  refine nc hs ?_
  refine AC ?_
  refine ne hs b ?_
  clear b
  exact rt h hs a e
def Ed (g:Int × ByteArray × Int × Ty × List Vl) (b:Int × ByteArray × Int × Ty × List Vl):Bool :=
 (DR g.2.1 b.2.1)||(decide (g.1=b.1))
theorem Ye (w0:World) (B:List (List AV)) (Rw:List RowA) (L:List LoopA) (a0:Int × ByteArray × Int × Ty × List Vl) (la1:Nat) (a1:Int × ByteArray × Int × Ty × List Vl) (hla1:B[la1]? = some (.val (.int .i64 a1.1)::(.val (.string a1.2.1)::(.val (.int .i64 a1.2.2.1)::((a1.2.2.2.1.cs)++([.list (a1.2.2.2.2.map Bq) .none])))))) (r:Bool) (h:Ed a0 a1=r) :
  ACalls Tryz.prog w0 227 [.agg (.val (.int .i64 a0.1)::(.val (.string a0.2.1)::(.val (.int .i64 a0.2.2.1)::((a0.2.2.2.1.cs)++([.list (a0.2.2.2.2.map Bq) .none]))))),.box la1 0] ⟨B,Rw,L⟩ fun x st=>x = .val (.bool r)∧st=⟨B,Rw,L⟩:=by
 rw [Ed] at h
 refine hd [.tmp 3] Tryz.func227 Tryz.ntmps227 fun M0 W0 g c e a f d hs=>?_
 simp only [As]
 have b:=(Ag.1 hla1).1
 have hs:=Aa (An hla1) hs
 refine rg [1,2] hs ?_
 refine rg [3] hs ?_
 exact rT h hs a d
theorem VX (w0:World) (B:List (List AV)) (Rw:List RowA) (L:List LoopA) (a0:Int × ByteArray × Int × Ty × List Vl) (la1:Nat) (a1:Int × ByteArray × Int × Ty × List Vl) (hla1:B[la1]? = some (.val (.int .i64 a1.1)::(.val (.string a1.2.1)::(.val (.int .i64 a1.2.2.1)::((a1.2.2.2.1.cs)++([.list (a1.2.2.2.2.map Bq) .none])))))) :
  ACalls Tryz.prog w0 227 [.agg (.val (.int .i64 a0.1)::(.val (.string a0.2.1)::(.val (.int .i64 a0.2.2.1)::((a0.2.2.2.1.cs)++([.list (a0.2.2.2.2.map Bq) .none]))))),.box la1 0] ⟨B,Rw,L⟩ fun x st=>x = .val (.bool (Ed a0 a1))∧st=⟨B,Rw,L⟩:=Ye w0 B Rw L a0 la1 a1 hla1 _ rfl
def MR (n:Nat) (h:Ty) (g:Int):Option Int :=
 (Ci h.fields g).bind fun b =>
 if b.2.1.size≤maxLen then
  if !(EU b.2.1) then
   some (12)
  else
   if !(decide (1≤b.1)&&decide (b.1≤9999)) then
    some (2)
   else
    if 0≤0∧0≤g∧g≤(h.fields.length:Int) then
     (AG n (h.fields.take g.toNat) (fun (s:Int × ByteArray × Int × Ty × List Vl)=>some (Ed s b))).bind fun q =>
     if q then
      some (7)
     else
      if (!(decide (1≤b.2.2.1)&&decide (b.2.2.1≤3)))||((decide (h.kind=10))&&(!(decide (b.2.2.1=1)))) then
       some (11)
      else
       if (decide (b.2.2.1=3))&&(decide ((b.2.2.2.2.length:Int)=0)) then
        some (4)
       else
        if (decide (1<(b.2.2.2.2.length:Int)))||((!(decide (b.2.2.1=3)))&&(decide (0<(b.2.2.2.2.length:Int)))) then
         some (3)
        else
         some (0)
    else none
 else none
theorem ZaJ (w0:World) (n:Nat) (B:List (List AV)) (Rw:List RowA) (L:List LoopA) (a0:Ty) (a1:Int) (r:Int) (h:MR n a0 a1=some r) :
  ACalls Tryz.prog w0 195 [.agg (a0.cs),.val (.int .i64 a1)] ⟨B,Rw,L⟩ fun x st=>x = .val (.int .i64 r)∧st=⟨B,Rw,L⟩:=by
 rw [MR] at h
 refine hd [.tmp 4] Tryz.func195 Tryz.ntmps195 fun M0 W0 z v u a y d hs=>?_
 simp only [As]
 refine rg [1,2] hs ?_
 obtain ⟨x3,o,h⟩:=bind_some h
 obtain ⟨p,q,e⟩:=Aw o
 have k:=Ax (f:=CJ) e
 have hs:=Aa k hs
 refine rg [1,2,5] hs ?_
 apply Ah;intro K4 i
 apply Ak
 obtain ⟨m,h⟩:=Aj h
 refine rc 2 [1,2,5,11] hs ?_;intro K5 j
 refine Ai _ (SC w0 _ _ _ x3.2.1 m) (hv hs) ?_
 refine ne hs j ?_
 clear j
 refine AK h hs (fun hs h=>?_) (fun hs h=>?_)
 ·refine rg [4] hs ?_
  exact rt h hs a d
 refine rc 2 [1,2,5,16] hs ?_;intro K9 g
 refine Ai _ (QR w0 _ _ _ x3.1 1 9999) (hv hs) ?_
 refine ne hs g ?_
 clear g
 refine AK h hs (fun hs h=>?_) (fun hs h=>?_)
 ·refine rg [4] hs ?_
  exact rt h hs a d
 obtain ⟨s,h⟩:=Aj h
 obtain ⟨t,hy14,h⟩:=bind_some h
 refine rc 2 [2,5,21] hs ?_;intro K12 c
 refine Ai _ (B1 w0 n _ _ _ (a0.fields.take a1.toNat) 227 [.box (B.length+1) 0] (fun (x0:Int × ByteArray × Int × Ty × List Vl)=>some (Ed x0 x3)) (fun x0 r hx C l hB' w=>by cases hx;exact VX w0 _ _ _ x0 _ x3 (DW hB' (ef hs))) _ hy14) (hv hs) ?_
 refine ne hs c ?_
 clear c
 refine AK h hs (fun hs h=>?_) (fun hs h=>?_)
 ·refine rg [4] hs ?_
  exact rt h hs a d
 refine rc 2 [5,28] hs ?_;intro K17 b
 refine Ai _ (QR w0 _ _ _ x3.2.2.1 1 3) (hv hs) ?_
 refine ne hs b ?_
 clear b
 refine AK h hs (fun hs h=>?_) (fun hs h=>?_)
 ·refine rg [4] hs ?_
  exact rt h hs a d
 refine rg [5,43] hs ?_
 refine AK h hs (fun hs h=>?_) (fun hs h=>?_)
 ·refine rg [4] hs ?_
  exact rt h hs a d
 refine rg [53] hs ?_
 refine AK h hs (fun hs h=>?_) (fun hs h=>?_)
 ·refine rg [4] hs ?_
  exact rt h hs a d
 refine sk [] hs i ?_
 clear i
 refine rg [4] hs ?_
 exact rt h hs a d
def IA  (b:Bool):Int :=
 if b then
  3
 else
  0
def Lp (b:Ty) (g:Lim):Int :=
 if (!g.bounds)&&((!(decide (b.min=0)))||(!(decide (b.max=0)))) then
  IA  true
 else
  if (!g.scale)&&(!(decide (b.scale=0))) then
   IA  true
  else
   if (!g.text)&&(decide (0<(b.words.length:Int))) then
    IA  true
   else
    if (!g.list)&&(decide (0<(b.elem.length:Int))) then
     IA  true
    else
     IA  ((!g.fields)&&(decide (0<(b.fields.length:Int))))
theorem Zcq (w0:World) (B:List (List AV)) (Rw:List RowA) (L:List LoopA) (a0:Ty) (a1:Lim) (r:Int) (h:Lp a0 a1=r) :
  ACalls Tryz.prog w0 193 [.agg (a0.cs),.agg (.val (.string a1.name)::(.val (.int .i64 a1.low)::(.val (.int .i64 a1.high)::(.val (.bool a1.bounds)::(.val (.bool a1.scale)::(.val (.bool a1.text)::(.val (.bool a1.list)::([.val (.bool a1.fields)]))))))))] ⟨B,Rw,L⟩ fun x st=>x = .val (.int .i64 r)∧st=⟨B,Rw,L⟩:=by
 rw [Lp] at h
 refine hd [.tmp 4] Tryz.func193 Tryz.ntmps193 fun M0 W0 j g i b k d hs=>?_
 simp only [As]
 refine rg [2,3] hs ?_
 apply Ah;intro K2 f
 apply Ak
 refine Au (fun e st=>∃ (a:Bool),Ck e st B Rw L [(5,true,.val (.bool a))] [a0.cs,.val (.string a1.name)::(.val (.int .i64 a1.low)::(.val (.int .i64 a1.high)::(.val (.bool a1.bounds)::(.val (.bool a1.scale)::(.val (.bool a1.text)::(.val (.bool a1.list)::([.val (.bool a1.fields)])))))))] [] (IA  a=r)) ?_ ?_
 ·intro K5 c
  refine rg [2,3,5] hs ?_
  refine AK h hs (fun hs h=>?_) (fun hs h=>?_)
  ·refine sk [5] hs c ?_
   exact ⟨true,([]),Rw,ef hs,ef hs,d,h⟩
  refine rg [2,3,5] hs ?_
  refine AK h hs (fun hs h=>?_) (fun hs h=>?_)
  ·refine sk [5] hs c ?_
   exact ⟨true,([]),Rw,ef hs,ef hs,d,h⟩
  refine rg [2,3,5] hs ?_
  refine AK h hs (fun hs h=>?_) (fun hs h=>?_)
  ·refine sk [5] hs c ?_
   exact ⟨true,([]),Rw,ef hs,ef hs,d,h⟩
  refine rg [2,3,5] hs ?_
  refine AK h hs (fun hs h=>?_) (fun hs h=>?_)
  ·refine sk [5] hs c ?_
   exact ⟨true,([]),Rw,ef hs,ef hs,d,h⟩
  refine rl [5] hs c ?_
  exact ⟨((!a1.fields)&&(decide (0<(a0.fields.length:Int)))),([]),Rw,ef hs,ef hs,d,h⟩
 ·clear h;rintro e st ⟨a,Xk4,Rk4,rfl,rfl,d,h⟩
  rw [IA] at h
  refine td j g i b d ?_
  refine AK h hs (fun hs h=>?_) (fun hs h=>?_)
  ·refine rg [4] hs ?_
   exact rT h hs b d
  refine sk [] hs f ?_
  clear f
  refine rg [4] hs ?_
  exact rT h hs b d
theorem Z4 (w0:World) (B:List (List AV)) (Rw:List RowA) (L:List LoopA) (a0:Ty) (a1:Lim) :
  ACalls Tryz.prog w0 193 [.agg (a0.cs),.agg (.val (.string a1.name)::(.val (.int .i64 a1.low)::(.val (.int .i64 a1.high)::(.val (.bool a1.bounds)::(.val (.bool a1.scale)::(.val (.bool a1.text)::(.val (.bool a1.list)::([.val (.bool a1.fields)]))))))))] ⟨B,Rw,L⟩ fun x st=>x = .val (.int .i64 (Lp a0 a1))∧st=⟨B,Rw,L⟩:=Zcq w0 B Rw L a0 a1 _ rfl
def Im  : ((List Lim)) :=
 [Lim.mk ((⟨#[]⟩:ByteArray)) 0 0 false false false false false,Lim.mk ((⟨#[98,111,111,108]⟩:ByteArray)) 0 0 false false false false false,Lim.mk ((⟨#[105,110,116]⟩:ByteArray)) ((-999999999999999)) 999999999999999 true false false false false,Lim.mk ((⟨#[100,101,99,105,109,97,108]⟩:ByteArray)) ((-999999999999999)) 999999999999999 true true false false false,Lim.mk ((⟨#[116,101,120,116]⟩:ByteArray)) 0 1024 true false true false false,Lim.mk ((⟨#[98,121,116,101,115]⟩:ByteArray)) 0 1024 true false false false false,Lim.mk ((⟨#[100,97,116,101]⟩:ByteArray)) ((-719162)) 2932896 true false false false false,Lim.mk ((⟨#[116,105,109,101]⟩:ByteArray)) ((-62135596800000)) 253402300799999 true false false false false,Lim.mk ((⟨#[108,105,115,116]⟩:ByteArray)) 0 256 true false false true false,Lim.mk ((⟨#[114,101,99,111,114,100]⟩:ByteArray)) 0 0 false false false false true,Lim.mk ((⟨#[118,97,114,105,97,110,116]⟩:ByteArray)) 0 0 false false false false true]
theorem ZaC (w0:World) (B:List (List AV)) (Rw:List RowA) (L:List LoopA)  (r:(List Lim)) (h:Im  = r) :
  ACalls Tryz.prog w0 192 [] ⟨B,Rw,L⟩ fun x st=>x = .agg (r.flatMap fun x=>(Xx x).cells)∧st=⟨B,Rw,L⟩:=by
 rw [Im] at h
 refine hd [.cell 0 185] Tryz.func192 Tryz.ntmps192 fun M0 W0 f b d a e c hs=>?_
 simp only [As]
 refine rg [0] hs ?_
 refine rg [0] (al hs) ?_
 exact rT h hs a c
theorem ZP (w0:World) (B:List (List AV)) (Rw:List RowA) (L:List LoopA)  :
  ACalls Tryz.prog w0 192 [] ⟨B,Rw,L⟩ fun x st=>x = .agg ((Im ).flatMap fun x=>(Xx x).cells)∧st=⟨B,Rw,L⟩:=ZaC w0 B Rw L  _ rfl
def GE (b:ByteArray):Vl :=
 Vl.mk 4 0 0 b ([]) ([])
theorem Zcf (w0:World) (B:List (List AV)) (Rw:List RowA) (L:List LoopA) (a0:ByteArray) (r:Vl) (h:GE a0=r) :
  ACalls Tryz.prog w0 168 [.val (.string a0)] ⟨B,Rw,L⟩ fun x st=>x = .agg (r.cs)∧st=⟨B,Rw,L⟩:=by
 rw [GE] at h
 refine hd [.cell 2 46] Tryz.func168 Tryz.ntmps168 fun M0 W0 f b d a e c hs=>?_
 simp only [As]
 refine rg [0,2] hs ?_
 refine rg [2] hs ?_
 exact rT h hs a c
theorem VM (w0:World) (B:List (List AV)) (Rw:List RowA) (L:List LoopA) (a0:ByteArray) :
  ACalls Tryz.prog w0 168 [.val (.string a0)] ⟨B,Rw,L⟩ fun x st=>x = .agg ((GE a0).cs)∧st=⟨B,Rw,L⟩:=Zcf w0 B Rw L a0 _ rfl
def L0 (n:Nat)  : Option Int :=
 some (0)
def FY (n:Nat) (q:Ty):Nat→Int→Option Int
 | 0,_=>none
 | m+1,b =>
  if decide (b<(q.words.length:Int)) then
   (Ci q.words b).bind fun g =>
   (FH n (GE g)).bind fun h =>
   if !(decide (h=0)) then
    some (h)
   else
    if decide (0<b) then
     if B2 (b-1) then
      (Ci q.words (b-1)).bind fun s =>
      if DR g s then
       some (7)
      else
       if B2 (b-1) then
        if WL g s then
         some (24)
        else
         if B2 (b+1) then
          (FY n q m) (b+1)
         else none
       else none
     else none
    else
     if B2 (b+1) then
      (FY n q m) (b+1)
     else none
  else
   L0 n 
def MK (n:Nat) (b:Ty):Option Int :=
 if (!(decide (b.min=0)))||(!(decide (b.max=0))) then
  some (3)
 else
  if decide (64<(b.words.length:Int)) then
   some (9)
  else
   FY n b n 0
theorem Zay (w0:World) (hT:Lib.Utf8Tabs 0 1 w0) (n:Nat) (B:List (List AV)) (Rw:List RowA) (L:List LoopA) (a0:Ty) (r:Int) (h:MK n a0=some r) :
  ACalls Tryz.prog w0 194 [.agg (a0.cs)] ⟨B,Rw,L⟩ fun x st=>x = .val (.int .i64 r)∧st=⟨B,Rw,L⟩:=by
 rw [MK] at h
 refine hd [.tmp 2] Tryz.func194 Tryz.ntmps194 fun M0 W0 O C y b V g hs=>?_
 simp only [As]
 refine rg [1] hs ?_
 apply Ah;intro K2 u
 apply Ak
 refine rg [1,6] hs ?_
 refine AK h hs (fun hs h=>?_) (fun hs h=>?_)
 ·refine rg [2] hs ?_
  exact rt h hs b g
 refine rg [1,15] hs ?_
 refine AK h hs (fun hs h=>?_) (fun hs h=>?_)
 ·refine rg [2] hs ?_
  exact rt h hs b g
 refine sk [1] hs u ?_
 clear u
 refine Au (fun e st=>Ck e st B Rw L [] [a0.cs] [] (L0 n  = some r)) ?_ ?_
 ·intro K11 z
  refine rg [1,21,22,23] hs ?_
  apply Ak
  refine Az (fun m e st=>∃ (a:Int),Ck e st B Rw L [(1,true,.box B.length 0),(21,true,.list (a0.words.map NJ) .none),(22,true,.val (.int .i64 (a0.words.length:Int))),(23,true,.val (.int .i64 a))] [a0.cs] [] (FY n a0 m a=some r)) n ⟨0,([]),Rw,ef hs,ef hs,g,h⟩ ?_
  rintro ml13 e st ⟨a,Xl13,Rl13,rfl,rfl,g,h⟩ Ul13 Vl13
  cases ml13 with
  | zero=>cases h
  | succ ml13 =>
  rw [FY] at h
  refine td O C y b g ?_
  refine rg [1,21,22,23,24] hs ?_
  apply Ah;intro K15 k
  refine AK h hs (fun hs h=>?_) (fun hs h=>?_)
  rotate_left
  ·refine sx [] hs z ?_
   exact ⟨([]),Rl13,ef hs,ef hs,g,h⟩
  refine sk [1,21,22,23] hs k ?_
  clear k
  apply Ah;intro K17 i
  apply Ak
  obtain ⟨w,v,h⟩:=bind_some h
  obtain ⟨D,E,o⟩:=Aw v
  have p:=Ax (f:=NJ) o
  have hs:=Aa p hs
  refine rg [1,3,4,21,22,23] hs ?_
  apply Ah;intro K20 l
  obtain ⟨Q,t,h⟩:=bind_some h
  refine rc 3 [1,3,4,5,21,22,23] hs ?_;intro K21 j
  refine Ai _ (VM w0 _ _ _ w) (hv hs) ?_
  refine nc hs ?_
  refine Ai _ (Nr w0 hT n _ _ _ (GE w) _ t) (hv hs) ?_
  refine ne hs j ?_
  clear j
  refine rg [1,3,4,5,21,22,23,32] hs ?_
  refine AK h hs (fun hs h=>?_) (fun hs h=>?_)
  ·refine rg [2] hs ?_
   exact rt h hs b g
  refine sk [1,3,4,21,22,23] hs l ?_
  clear l
  apply Ah;intro K26 d
  apply Ah;intro K27 c
  rcases Bool.eq_false_or_eq_true (decide (0<a)) with hf28 | hf28
  ·replace h:=AY h hf28
   obtain ⟨J,h⟩:=Aj h
   obtain ⟨U,G,F,q,h⟩:=ix NJ h
   have hs:=Aa hf28 hs
   have hs:=Aa q hs
   refine rl [1,3,4,21,22,23,45] hs c ?_
   clear c
   refine AK h hs (fun hs h=>?_) (fun hs h=>?_)
   ·refine rg [2] hs ?_
    exact rt h hs b g
   refine sk [1,3,4,21,22,23] hs d ?_
   clear d
   obtain ⟨N,h⟩:=Aj h
   refine rg [1,21,22,23,57] hs ?_
   refine AK h hs (fun hs h=>?_) (fun hs h=>?_)
   ·refine rg [2] hs ?_
    exact rt h hs b g
   refine sk [1,21,22,23] hs i ?_
   clear i
   obtain ⟨H,h⟩:=Aj h
   refine rl [1,21,22,23] hs (fun e s=>Vl13 ml13 e s (Nat.lt_succ_self _)) ?_
   exact ⟨(a+1),([]),Rl13,ef hs,ef hs,g,h⟩
  ·replace h:=AZ h hf28
   have hs:=Aa hf28 hs
   refine rl [1,3,4,21,22,23,45] hs c ?_
   clear c
   refine A7 false ev (ef hs) (fun hb38=>by cases hb38) (fun hb38=>?_)
   refine sk [1,3,4,21,22,23] hs d ?_
   clear d
   refine rg [1,21,22,23,57] hs ?_
   refine A7 false ev (ef hs) (fun hb40=>by cases hb40) (fun hb40=>?_)
   refine sk [1,21,22,23] hs i ?_
   clear i
   obtain ⟨K,h⟩:=Aj h
   refine rl [1,21,22,23] hs (fun e s=>Vl13 ml13 e s (Nat.lt_succ_self _)) ?_
   exact ⟨(a+1),([]),Rl13,ef hs,ef hs,g,h⟩
 ·clear h;rintro e st ⟨Xk10,Rk10,rfl,rfl,g,h⟩
  rw [L0] at h
  refine td O C y b g ?_
  refine rg [2] hs ?_
  exact rt h hs b g
def SH (n:Nat)  : Option Int :=
 some (0)
def Iq (n:Nat) (h:Ty):Nat→Int→Option Int
 | 0,_=>none
 | m+1,b =>
  if decide (b<(h.fields.length:Int)) then
   (MR n h b).bind fun g =>
   if !(decide (g=0)) then
    some (g)
   else
    if B2 (b+1) then
     (Iq n h m) (b+1)
    else none
  else
   SH n 
def Iu (n:Nat) (g:Ty) (b:Bool):Option Int :=
 if b then
  some (4)
 else
  if (decide (g.kind=8))&&(decide (1<(g.elem.length:Int))) then
   some (3)
  else
   if decide (64<(g.fields.length:Int)) then
    some (9)
   else
    Iq n g n 0
def KH (n:Nat) (b:Ty):Option Int :=
 if (decide (b.kind=8))&&(decide ((b.elem.length:Int)=0)) then
  Iu n b true
 else
  Iu n b ((decide (b.kind=10))&&(decide ((b.fields.length:Int)=0)))
def Nj (n:Nat) (g:Ty) (b:Bool):Option Int :=
 if b then
  some (2)
 else
  KH n g 
def Q6 (n:Nat) (b:Ty):Option Int :=
 if !(decide (1≤b.kind)&&decide (b.kind≤10)) then
  some (11)
 else
  (Ci (Im ) b.kind).bind fun g =>
  if !(decide ((Lp b g)=0)) then
   some (Lp b g)
  else
   if (decide (b.kind=4))&&(decide (0<(b.words.length:Int))) then
    (MK n b).bind fun h =>
    if !(decide (h=0)) then
     some (h)
    else
     KH n b 
   else
    if g.bounds&&(((decide (b.max<b.min))||(decide (b.min<g.low)))||(decide (g.high<b.max))) then
     Nj n b true
    else
     Nj n b (g.scale&&(!(decide (0≤b.scale)&&decide (b.scale≤12))))
theorem Zek (w0:World) (hT:Lib.Utf8Tabs 0 1 w0) (n:Nat) (B:List (List AV)) (Rw:List RowA) (L:List LoopA) (a0:Ty) (r:Int) (h:Q6 n a0=some r) :
  ACalls Tryz.prog w0 135 [.agg (a0.cs)] ⟨B,Rw,L⟩ fun x st=>x = .val (.int .i64 r)∧st=⟨B,Rw,L⟩:=by
 rw [Q6] at h
 refine hd [.tmp 2] Tryz.func135 Tryz.ntmps135 fun M0 W0 U p o a hu g hs=>?_
 simp only [As]
 refine rg [1] hs ?_
 apply Ah;intro K2 G
 refine rc 2 [1,11] hs ?_;intro K3 O
 refine Ai _ (QR w0 _ _ _ a0.kind 1 10) (hv hs) ?_
 refine ne hs O ?_
 clear O
 refine AK h hs (fun hs h=>?_) (fun hs h=>?_)
 ·have l:=hs.1
  refine rg [2] hs ?_
  exact rt h hs a g
 have l:=hs.1
 refine sk [1] hs G ?_
 clear G
 apply Ah;intro K6 H
 obtain ⟨b,Y,h⟩:=bind_some h
 obtain ⟨aa,u,F⟩:=Aw Y
 have d:=HB (f:=fun x=>(Xx x).cells) 8 (fun _=>rfl) F
 have E:(Im ).length=11:=rfl
 first | rw [E] at u | simp only [List.length_cons,List.length_nil,Nat.reduceAdd,Nat.zero_add] at u
 simp only [HM,HO,HN,HK,HI,Hk,FB,FD,HL,Ec,D7,Fv,Fp,Fj,J2] at d
 apply Ju HD [4,5] [1,3] kr (fun s=>∃ (X:List (List AV)) (rows:List RowA),s=⟨B++([a0.cs]++X),rows,L⟩) 3 (B.length+1)
 ·simp +decide only [go_sem,Nat.reduceAdd]
 ·rintro s ⟨X,rows,rfl⟩
  refine ⟨2,?_⟩
  rw [Am];simp +decide only [go_sem,Nat.reduceAdd,EM,l,d]
  have hs:=Aa d hs
  (repeat' apply Aa)<;>first | refine Ai _ (ZP w0 _ _ _ ) (hv hs) ?_ | exact cl
  rw [Am];simp +decide only [go_sem,Nat.reduceAdd,l,d]
  (repeat' apply Aa)<;>first | rfl | exact cl
 ·refine Good.mk [4] kr ⟨[],_,by first | rfl | simp only [List.append_nil,List.nil_append]⟩ ?_ ?_
  ·intro h;exact absurd h (by decide)
  ·intro i hi;simp only [List.mem_cons,List.not_mem_nil,or_false] at hi
   subst hi
   ·apply DG rfl rfl ev
    ·simp +decide only [go_sem,Nat.reduceAdd,FT,l,d]
     (repeat' apply Aa)<;>first | rfl | exact cl
    ·simp +decide only [go_sem,Nat.reduceAdd,l,d]
     refine Good.mk [5] kr ⟨_,_,by first | rfl | simp only [List.append_nil,List.nil_append]⟩ ?_ ?_
     ·intro h;exact absurd h (by decide)
     ·intro i hi;simp only [List.mem_cons,List.not_mem_nil,or_false] at hi
      subst hi
      ·apply DG rfl rfl ev
       ·simp +decide only [go_sem,Nat.reduceAdd,FT,l,d]
        (repeat' apply Aa)<;>first | rfl | exact cl
       ·simp +decide only [go_sem,Nat.reduceAdd,l,d]
        refine Good.mk [] kr ⟨_,_,by first | rfl | simp only [List.append_nil,List.nil_append]⟩ ?_ ?_
        ·intro _;apply DF [1,3];first | (simp +decide only [go_sem,Nat.reduceAdd,l,d];done) | (simp +decide only [go_sem,Nat.reduceAdd,l,d];rfl)
        ·intro i hi;cases hi
 simp +decide only [go_sem,Nat.reduceAdd,l,d]
 (repeat' apply Aa)<;>first | refine H _ _ ?_ | exact cl
 clear H
 apply Ah;intro K8 K
 have hs:=Aa d hs
 refine rc 2 [1,3,4] hs ?_;intro K9 N
 refine Ai _ (Z4 w0 _ _ _ a0 b) (hv hs) ?_
 refine ne hs N ?_
 clear N
 refine rg [1,3,4,20] hs ?_
 refine AK h hs (fun hs h=>?_) (fun hs h=>?_)
 ·refine rg [2] hs ?_
  exact rt h hs a g
 refine sk [1,3] hs K ?_
 clear K
 refine Au (fun e st=>Ck e st B Rw L [(1,true,.box B.length 0)] [a0.cs,.val (.string b.name)::(.val (.int .i64 b.low)::(.val (.int .i64 b.high)::(.val (.bool b.bounds)::(.val (.bool b.scale)::(.val (.bool b.text)::(.val (.bool b.list)::([.val (.bool b.fields)])))))))] [] (KH n a0  = some r)) ?_ ?_
 ·intro K15 C
  apply Ak
  refine rg [1,3,22] hs ?_
  refine AK h hs (fun hs h=>?_) (fun hs h=>?_)
  ·obtain ⟨ab,V,h⟩:=bind_some h
   refine rc 2 [1,5] hs ?_;intro K18 z
   refine Ai _ (Zay w0 hT n _ _ _ a0 _ V) (hv hs) ?_
   refine ne hs z ?_
   clear z
   refine rg [1,5,35] hs ?_
   refine AK h hs (fun hs h=>?_) (fun hs h=>?_)
   ·refine rg [2] hs ?_
    exact rt h hs a g
   refine sk [1] hs C ?_
   exact ⟨([]),Rw,ef hs,ef hs,g,h⟩
  refine Au (fun e st=>∃ (j:Bool),Ck e st B Rw L [(1,true,.box B.length 0),(37,true,.val (.bool j))] [a0.cs,.val (.string b.name)::(.val (.int .i64 b.low)::(.val (.int .i64 b.high)::(.val (.bool b.bounds)::(.val (.bool b.scale)::(.val (.bool b.text)::(.val (.bool b.list)::([.val (.bool b.fields)])))))))] [] (Nj n a0 j=some r)) ?_ ?_
  ·intro K25 D
   refine rg [1,3,37] hs ?_
   refine AK h hs (fun hs h=>?_) (fun hs h=>?_)
   ·refine sk [1,37] hs D ?_
    exact ⟨true,([]),Rw,ef hs,ef hs,g,h⟩
   refine rk 2 [1,37] hs ?_
   refine EL _ (fun _=>QR w0 _ _ _ a0.scale 0 12) (hv hs) ?_
   refine ne hs D ?_
   exact ⟨(b.scale&&(!(decide (0≤a0.scale)&&decide (a0.scale≤12)))),([]),Rw,ef hs,ef hs,g,h⟩
  ·clear h;rintro e st ⟨j,Xk24,Rk24,rfl,rfl,g,h⟩
   rw [Nj] at h
   refine td U p o a g ?_
   refine AK h hs (fun hs h=>?_) (fun hs h=>?_)
   ·refine rg [2] hs ?_
    exact rt h hs a g
   refine sk [1] hs C ?_
   exact ⟨([]),Rk24,ef hs,ef hs,g,h⟩
 ·clear h;rintro e st ⟨Xk14,Rk14,rfl,rfl,g,h⟩
  rw [KH] at h
  refine td U p o a g ?_
  apply Ah;intro K30 q
  apply Ak
  refine Au (fun e st=>∃ (k:Bool),Ck e st B Rw L [(1,true,.box B.length 0),(69,true,.val (.bool k))] [a0.cs,.val (.string b.name)::(.val (.int .i64 b.low)::(.val (.int .i64 b.high)::(.val (.bool b.bounds)::(.val (.bool b.scale)::(.val (.bool b.text)::(.val (.bool b.list)::([.val (.bool b.fields)])))))))] [] (Iu n a0 k=some r)) ?_ ?_
  ·intro K33 y
   refine rg [1,69] hs ?_
   refine AK h hs (fun hs h=>?_) (fun hs h=>?_)
   ·refine sk [1,69] hs y ?_
    exact ⟨true,([]),Rk14,ef hs,ef hs,g,h⟩
   refine rl [1,69] hs y ?_
   exact ⟨((decide (a0.kind=10))&&(decide ((a0.fields.length:Int)=0))),([]),Rk14,ef hs,ef hs,g,h⟩
  ·clear h;rintro e st ⟨k,Xk32,Rk32,rfl,rfl,g,h⟩
   rw [Iu] at h
   refine td U p o a g ?_
   refine AK h hs (fun hs h=>?_) (fun hs h=>?_)
   ·refine rg [2] hs ?_
    exact rt h hs a g
   refine rg [1,88] hs ?_
   refine AK h hs (fun hs h=>?_) (fun hs h=>?_)
   ·refine rg [2] hs ?_
    exact rt h hs a g
   refine rg [1,98] hs ?_
   refine AK h hs (fun hs h=>?_) (fun hs h=>?_)
   ·refine rg [2] hs ?_
    exact rt h hs a g
   refine sk [1] hs q ?_
   clear q
   refine Au (fun e st=>Ck e st B Rw L [] [a0.cs,.val (.string b.name)::(.val (.int .i64 b.low)::(.val (.int .i64 b.high)::(.val (.bool b.bounds)::(.val (.bool b.scale)::(.val (.bool b.text)::(.val (.bool b.list)::([.val (.bool b.fields)])))))))] [] (SH n  = some r)) ?_ ?_
   ·intro K46 J
    refine rg [1,105,106] hs ?_
    apply Ak
    refine Az (fun m e st=>∃ (c:Int),Ck e st B Rw L [(1,true,.box B.length 0),(105,true,.val (.int .i64 (a0.fields.length:Int))),(106,true,.val (.int .i64 c))] [a0.cs,.val (.string b.name)::(.val (.int .i64 b.low)::(.val (.int .i64 b.high)::(.val (.bool b.bounds)::(.val (.bool b.scale)::(.val (.bool b.text)::(.val (.bool b.list)::([.val (.bool b.fields)])))))))] [] (Iq n a0 m c=some r)) n ⟨0,([]),Rk32,ef hs,ef hs,g,h⟩ ?_
    rintro ml48 e st ⟨c,Xl48,Rl48,rfl,rfl,g,h⟩ Ul48 Vl48
    cases ml48 with
    | zero=>cases h
    | succ ml48 =>
    rw [Iq] at h
    refine td U p o a g ?_
    refine rg [1,105,106,107] hs ?_
    apply Ah;intro K50 v
    refine AK h hs (fun hs h=>?_) (fun hs h=>?_)
    rotate_left
    ·refine sx [] hs J ?_
     exact ⟨([]),Rl48,ef hs,ef hs,g,h⟩
    refine sk [1,105,106] hs v ?_
    clear v
    apply Ah;intro K52 t
    apply Ak
    refine rg [1,6,105,106] hs ?_
    obtain ⟨ad,Q,h⟩:=bind_some h
    refine rc 2 [1,7,105,106] hs ?_;intro K54 w
    refine Ai _ (ZaJ w0 n _ _ _ a0 c _ Q) (hv hs) ?_
    refine ne hs w ?_
    clear w
    refine rg [1,7,105,106,113] hs ?_
    refine AK h hs (fun hs h=>?_) (fun hs h=>?_)
    ·refine rg [2] hs ?_
     exact rt h hs a g
    refine sk [1,105,106] hs t ?_
    clear t
    obtain ⟨Z,h⟩:=Aj h
    refine rl [1,105,106] hs (fun e s=>Vl48 ml48 e s (Nat.lt_succ_self _)) ?_
    exact ⟨(c+1),([]),Rl48,ef hs,ef hs,g,h⟩
   ·clear h;rintro e st ⟨Xk45,Rk45,rfl,rfl,g,h⟩
    rw [SH] at h
    refine td U p o a g ?_
    refine rg [2] hs ?_
    exact rt h hs a g
def OM (rec:Ty→Int→Int→Option (Int × Int)) (n:Nat)  (pla2_k18:Int):Option (Int × Int) :=
 some ((0,pla2_k18))
def Dk (rec:Ty→Int→Int→Option (Int × Int)) (n:Nat) (a0:Ty) (q:Int) (h:(List Ty)):Nat→Int→Int→Option (Int × Int)
 | 0,_,_=>none
 | m+1,b,pla2_l22 =>
  if decide (b<(h.length:Int)) then
   (Ci h b).bind fun s =>
   if B2 (q+1) then
    (rec s (q+1) pla2_l22).bind fun g =>
    if !(decide (g.1=0)) then
     some ((g.1,g.2))
    else
     if decide (a0.kind=9) then
      (Ci a0.fields b).bind fun y =>
      if decide (y.2.2.1=3) then
       (Ci y.2.2.2.2 0).bind fun x40 =>
       (JQ n s x40).bind fun y41 =>
       if !y41 then
        some ((18,g.2))
       else
        if B2 (b+1) then
         (Dk rec n a0 q h m) (b+1) g.2
        else none
      else
       if B2 (b+1) then
        (Dk rec n a0 q h m) (b+1) g.2
       else none
     else
      if B2 (b+1) then
       (Dk rec n a0 q h m) (b+1) g.2
      else none
   else none
  else
   OM rec n pla2_l22
def Pv (rec:Ty→Int→Int→Option (Int × Int)) (n:Nat) (h:Ty) (s:Int) (b:Int):Option (Int × Int) :=
 if decide (b=0) then
  some ((9,b))
 else
  if decide (8<s) then
   some ((23,b))
  else
   if B2 (b-1) then
    (Q6 n h).bind fun g =>
    if !(decide (g=0)) then
     some ((g,b-1))
    else
     (M5 n h).bind fun q =>
     Dk rec n h s q n 0 (b-1)
   else none
def I9:Nat→Ty→Int→Int→Option (Int × Int)
 | 0,_,_,_=>none
 | n+1,h,b,g=>Pv (I9 n) n h b g
def RB (w0:World) (F:Ty→Int→Int→Option (Int × Int)):Prop:=∀ (B:List (List AV)) (Rw:List RowA) (L:List LoopA) (h:Ty) (b:Int) (la2:Nat) (g:Int) (hla2:B[la2]? = some ([.val (.int .i64 g)])) (r:Int × Int),F h b g=some r→ACalls Tryz.prog w0 80 [.agg (h.cs),.val (.int .i64 b),.box la2 0] ⟨B,Rw,L⟩ fun x st=>x = .val (.int .i64 r.1)∧st=⟨(B.set la2 [.val (.int .i64 r.2)]),Rw,L⟩
theorem XV (w0:World) (hT:Lib.Utf8Tabs 0 1 w0) (rec:Ty→Int→Int→Option (Int × Int)) (ih:RB w0 rec) (n:Nat):RB w0 (Pv rec n):=by
 intro B Rw L a0 a1 C a2 b r h
 rw [Pv] at h
 refine hd [.tmp 6] Tryz.func80 Tryz.ntmps80 fun M0 W0 hN ae V a hu x hs=>?_
 simp only [As]
 have ag:=(Ag.1 b).1
 have hs:=Aa (An b) hs
 refine rg [1,2,3] hs ?_
 apply Ah;intro K2 U
 apply Ak
 refine rg [1,2,3,11] hs ?_
 refine AK h hs (fun hs h=>?_) (fun hs h=>?_)
 ·have j:=hs.1
  refine rg [6] hs ?_
  exact rt h hs a x
 have j:=hs.1
 refine rg [1,2,3,16] hs ?_
 refine AK h hs (fun hs h=>?_) (fun hs h=>?_)
 ·have l:=hs.1
  refine rg [6] hs ?_
  exact rt h hs a x
 have l:=hs.1
 refine sk [1,2,3] hs U ?_
 clear U
 obtain ⟨au,h⟩:=Aj h
 refine rg [1,2,3] hs ?_
 apply Ah;intro K11 G
 obtain ⟨ay,af,h⟩:=bind_some h
 refine rc 2 [1,2,3,7] hs ?_;intro K12 J
 refine Ai _ (Zek w0 hT n _ _ _ a0 _ af) (hv hs) ?_
 refine ne hs J ?_
 clear J
 refine rg [1,2,3,7,27] hs ?_
 refine AK h hs (fun hs h=>?_) (fun hs h=>?_)
 ·have d:=hs.1
  refine rg [6] hs ?_
  apply A9;simp +decide only [go_sem,Nat.reduceAdd,An b,j,l,d]
  have hgt:=Option.some.inj h;subst hgt
  first | refine DT (Ap a ev) HT x.pre ev ⟨?_,rfl⟩ | refine Fg (Ap a ev) HT x.pre ev ⟨?_,rfl⟩
  first | rfl | (simp +decide only [go_sem,Nat.reduceAdd,An b,j,l,d];done) | (simp +decide only [go_sem,Nat.reduceAdd,Vl.cs,Ty.cs,An b,j,l,d];done)
 have d:=hs.1
 refine sk [1,2,3] hs G ?_
 clear G
 refine Au (fun e st=>∃ (k:Int) (Xk18:List (List AV)) (Rk18:List RowA),e=[]∧st=⟨(B.set C ([.val (.int .i64 k)]))++([a0.cs]++Xk18),Rk18,L⟩∧Owns Rw Rk18 []∧OM rec n k=some r) ?_ ?_
 ·intro K19 ab
  obtain ⟨N,ad,h⟩:=bind_some h
  refine rc 2 [1,2,3,30,31,32] hs ?_;intro K20 E
  refine Ai _ (Zau w0 n _ _ _ a0 _ ad) (hv hs) ?_
  refine ne hs E ?_
  clear E
  apply Ak
  refine Az (fun m e st=>∃ (c:Int) (g:Int) (Xl22:List (List AV)) (Rl22:List RowA),e=[(1,true,.val (.int .i64 a1)),(2,true,.box C 0),(3,true,.box B.length 0),(30,true,.list (N.map HE) .none),(31,true,.val (.int .i64 (N.length:Int))),(32,true,.val (.int .i64 c))]∧st=⟨(B.set C ([.val (.int .i64 g)]))++([a0.cs]++Xl22),Rl22,L⟩∧Owns Rw Rl22 []∧Dk rec n a0 a1 N m c g=some r) n ⟨0,(a2-1),([]),Rw,ef hs,ef hs,x,h⟩ ?_
  rintro ml22 e st ⟨c,g,Xl22,Rl22,rfl,rfl,x,h⟩ Ul22 Vl22
  cases ml22 with
  | zero=>cases h
  | succ ml22 =>
  rw [Dk] at h
  refine AX hN ae V HT (Ap a ev) x ow ow ?_
  refine rg [1,2,3,30,31,32,33] hs ?_
  apply Ah;intro K24 F
  refine AK h hs (fun hs h=>?_) (fun hs h=>?_)
  rotate_left
  ·have q:=hs.1
   refine sx [] hs ab ?_
   exact ⟨g,([]),Rl22,ef hs,ef hs,x,h⟩
  have q:=hs.1
  refine sk [1,2,3,30,31,32] hs F ?_
  clear F
  apply Ah;intro K26 v
  apply Ak
  obtain ⟨z,Y,h⟩:=bind_some h
  obtain ⟨ap,ai,O⟩:=Aw Y
  have i:=Ax (f:=HE) O
  have hs:=Aa i hs
  refine rg [1,2,3,8,9,30,31,32] hs ?_
  apply Ah;intro K29 H
  obtain ⟨aq,h⟩:=Aj h
  obtain ⟨K,Z,h⟩:=bind_some h
  refine rc 2 [1,2,3,8,9,10,30,31,32] hs ?_;intro K30 D
  refine BE _ (ih _ _ _ z (a1+1) C g (ef hs) _ Z) (hv hs) ?_;rintro _ _ ⟨rfl,rfl⟩
  refine ne hs D ?_
  clear D
  refine rg [1,2,3,8,9,10,30,31,32,43] hs ?_
  refine AK h hs (fun hs h=>?_) (fun hs h=>?_)
  ·have t:=hs.1
   refine rg [6] hs ?_
   apply A9;simp +decide only [go_sem,Nat.reduceAdd,An b,j,l,d,q,i,t]
   have hgt:=Option.some.inj h;subst hgt
   first | refine DT (Ap a ev) HT x.pre ev ⟨?_,rfl⟩ | refine Fg (Ap a ev) HT x.pre ev ⟨?_,rfl⟩
   first | rfl | (simp +decide only [go_sem,Nat.reduceAdd,An b,j,l,d,q,i,t];done) | (simp +decide only [go_sem,Nat.reduceAdd,Vl.cs,Ty.cs,An b,j,l,d,q,i,t];done)
  have t:=hs.1
  refine sk [1,2,3,8,9,30,31,32] hs H ?_
  clear H
  apply Ah;intro K36 u
  rcases Bool.eq_false_or_eq_true (decide (a0.kind=9)) with hf37 | hf37
  ·replace h:=AY h hf37
   obtain ⟨aa,ah,ak,o,h⟩:=ix CJ h
   rcases Bool.eq_false_or_eq_true (decide (aa.2.2.1=3)) with hf39 | hf39
   ·replace h:=AY h hf39
    obtain ⟨ao,am,aj,p,h⟩:=ix Bq h
    have w:(aa.2.2.2.2.map Bq).getD 0 .junk=_:=p
    obtain ⟨ax,Q,h⟩:=bind_some h
    have hs:=Aa hf37 hs
    have hs:=Aa o hs
    have hs:=Aa hf39 hs
    have hs:=Aa p hs
    have hs:=Aa w hs
    refine dk 25 2 1 [1,2,3,30,31,32,69] hs HD ?_
    refine Ai _ (Xw w0 hT n _ _ _ z ao _ Q) (hv hs) ?_
    refine dn hs u ?_
    clear u
    refine AK h hs (fun hs h=>?_) (fun hs h=>?_)
    ·have y:=hs.1
     refine rg [6] hs ?_
     apply A9;simp +decide only [go_sem,Nat.reduceAdd,An b,j,l,d,q,i,t,hf37,o,hf39,p,w,y]
     have hgt:=Option.some.inj h;subst hgt
     first | refine DT (Ap a ev) HT x.pre ev ⟨?_,rfl⟩ | refine Fg (Ap a ev) HT x.pre ev ⟨?_,rfl⟩
     first | rfl | (simp +decide only [go_sem,Nat.reduceAdd,An b,j,l,d,q,i,t,hf37,o,hf39,p,w,y];done) | (simp +decide only [go_sem,Nat.reduceAdd,Vl.cs,Ty.cs,An b,j,l,d,q,i,t,hf37,o,hf39,p,w,y];done)
    have y:=hs.1
    refine sk [1,2,3,30,31,32] hs v ?_
    clear v
    obtain ⟨av,h⟩:=Aj h
    refine rl [1,2,3,30,31,32] hs (fun e s=>Vl22 ml22 e s (Nat.lt_succ_self _)) ?_
    exact ⟨(c+1),K.2,([z.cs]),Rl22,ef hs,ef hs,x,h⟩
   ·replace h:=AZ h hf39
    have hs:=Aa hf37 hs
    have hs:=Aa o hs
    have hs:=Aa hf39 hs
    refine dk 25 2 1 [1,2,3,30,31,32,69] hs HD ?_
    refine AC ?_
    refine dn hs u ?_
    clear u
    refine A7 false ev (ef hs) (fun hb45=>by cases hb45) (fun hb45=>?_)
    refine sk [1,2,3,30,31,32] hs v ?_
    clear v
    obtain ⟨aw,h⟩:=Aj h
    refine rl [1,2,3,30,31,32] hs (fun e s=>Vl22 ml22 e s (Nat.lt_succ_self _)) ?_
    exact ⟨(c+1),K.2,([z.cs]),Rl22,ef hs,ef hs,x,h⟩
  ·replace h:=AZ h hf37
   have hs:=Aa hf37 hs
   refine dk 25 2 1 [1,2,3,30,31,32,69] hs HD ?_
   refine AC ?_
   refine dn hs u ?_
   clear u
   refine A7 false ev (ef hs) (fun hb47=>by cases hb47) (fun hb47=>?_)
   refine sk [1,2,3,30,31,32] hs v ?_
   clear v
   obtain ⟨ar,h⟩:=Aj h
   refine rl [1,2,3,30,31,32] hs (fun e s=>Vl22 ml22 e s (Nat.lt_succ_self _)) ?_
   exact ⟨(c+1),K.2,([z.cs]),Rl22,ef hs,ef hs,x,h⟩
 ·clear h;rintro e st ⟨k,Xk18,Rk18,rfl,rfl,x,h⟩
  rw [OM] at h
  refine AX hN ae V HT (Ap a ev) x ow ow ?_
  refine rg [6] hs ?_
  apply A9;simp +decide only [go_sem,Nat.reduceAdd,An b,j,l,d]
  have hgt:=Option.some.inj h;subst hgt
  first | refine DT (Ap a ev) HT x.pre ev ⟨?_,rfl⟩ | refine Fg (Ap a ev) HT x.pre ev ⟨?_,rfl⟩
  first | rfl | (simp +decide only [go_sem,Nat.reduceAdd,An b,j,l,d];done) | (simp +decide only [go_sem,Nat.reduceAdd,Vl.cs,Ty.cs,An b,j,l,d];done)
theorem Vs (w0:World) (hT:Lib.Utf8Tabs 0 1 w0):∀ n:Nat,RB w0 (I9 n)
 | 0=>fun _ _ _ _ _ _ _ _ _ h=>(nomatch h)
 | n+1=>XV w0 hT (I9 n) (Vs w0 hT n) n
def Is  : List (Nat × Vl)→Int→Option Int
 | [],b1_r6 =>
  some (b1_r6)
 | p_r6::rest,b1_r6 =>
  if B2 (b1_r6+1) then
   (Is  rest) (b1_r6+1)
  else none
def MO (b:Vl):Option Int :=
 if b.depth<4611686018427387904∧b.wide=true then
  Is  (Ff 1 b) 0
 else none
theorem WT (w0:World) (B:List (List AV)) (Rw:List RowA) (L:List LoopA) (a0:Vl) (r:Int) (h:MO a0=some r) :
  ACalls Tryz.prog w0 77 [.agg (a0.cs)] ⟨B,Rw,L⟩ fun x st=>x = .val (.int .i64 r)∧st=⟨B,Rw,L⟩:=by
 rw [MO] at h
 refine hd [.tmp 2] Tryz.func77 Tryz.ntmps77 fun M0 W0 D q n b H c hs=>?_
 simp only [As]
 refine rg [1] hs ?_
 refine rg [1,3] hs ?_
 apply Ah;intro K3 d
 refine rc 2 [3,5] hs ?_;intro K4 f
 refine BE _ (Pg w0 _ _ _ a0) (hv hs) ?_;rintro _ _ ⟨rfl,rfl⟩
 refine ne hs f ?_
 clear f
 apply Ak
 obtain ⟨m,h⟩:=Aj h
 refine Sz (Jj a0) (fun st=>st.boxes[(B.length+2)]? = some a0.cs) (fun i st=>∃ (a:Int) (Rr6:List RowA),st=⟨B++([a0.cs,[.val (.int .i64 a)],a0.cs]),Rr6,L⟩∧Owns Rw Rr6 []∧Is  ((Ff 1 a0).drop i) a=some r) (fun _ _=>False) ev ev (MD w0 a0 m _) (fun x o=>Qe a0 x o) (by decide) ?_ ⟨0,Rw,ef hs,c,h⟩ (fun _ _ h=>h.elim) ?_ ?_ ?_
 ·rintro i st k ⟨a,Rr6,rfl,c,h⟩ _ _;simp +decide [St.push]
 ·rintro i F ⟨XB,XR,XL⟩ x M1 W1 l k y hX w p g o C K v
  obtain ⟨u,t,rfl,G⟩:=P5 a0 i x o
  (try simp only at hX)
  subst hX
  obtain ⟨a,Rr6,rfl,c,h⟩:=w
  rw [Vh t,Is] at h
  have e:=c
  simp only [St.ext,St.push,List.append_assoc,List.append_nil]
  refine D4 (DD [3] _) ?_ (Bm _ _)
  apply Bt;simp +decide only [go_sem,Nat.reduceAdd]
  (repeat' apply Aa)<;>first | refine v _ _ (by simp [St.ext,St.push]) (fun J j=>?_) | exact cl
  clear v
  dsimp only [St.ext,St.push]
  apply Ak
  obtain ⟨z,h⟩:=Aj h
  apply Ao 1 [3]
  rw [Am];simp +decide only [go_sem,Nat.reduceAdd]
  (repeat' apply Aa)<;>first | refine j _ _ _ ⟨⟨B++[a0.cs,[.val (.int .i64 (a+1))],a0.cs],Rr6,L⟩,[],by first | rfl | (simp only [List.append_assoc,List.append_nil,List.cons_append,List.nil_append];done),⟨by simp,by first | exact Nat.le_refl _ | (have:=c.len;simp;omega),rfl⟩,rfl,⟨(a+1),Rr6,ef hs,c,h⟩,?_⟩ | exact cl
  exact .inl rfl
 ·rintro s k ⟨XB,XR,XL⟩ hXR ⟨a,Rr6,rfl,c,h⟩ _ _
  simp only at hXR
  subst hXR
  rw [List.drop_eq_nil_of_le (by rw [Me];exact Nat.le_refl _),Is] at h
  simp only [St.ext,St.push,List.append_assoc,List.append_nil]
  (repeat' apply Aa)<;>first | refine d _ _ ?_ | exact cl
  clear d
  refine RJ (bs:=[a0.cs,[.val (.int .i64 a)],a0.cs]) D q n rfl b c ow ow ?_
  refine rg [2] hs ?_
  exact rt h hs b c
 ·rintro E s k X hX h;exact h.elim
def Em (rec:Ty→Option Int) (n:Nat) (g:Int→Int→Option Int) (b:Int) (h:Int):Option Int :=
 if B2 (b+1) then
  g h (b+1)
 else none
def EN (rec:Ty→Option Int) (n:Nat)  (b:Int):Option Int :=
 some ((if 4097<b then 4097 else b))
def BZ (rec:Ty→Option Int) (n:Nat) (y:Ty):Nat→Int→Int→Option Int
 | 0,_,_=>none
 | m+1,g,b =>
  if decide (b<(y.fields.length:Int)) then
   (Ci y.fields b).bind fun h =>
   if decide (h.2.2.1=1) then
    (rec h.2.2.2.1).bind fun q =>
    if B2 (g+q) then
     Em rec n (BZ rec n y m) b (g+q)
    else none
   else
    if decide (h.2.2.1=3) then
     (Ci h.2.2.2.2 0).bind fun x39 =>
     (MO x39).bind fun s =>
     if B2 (g+s) then
      Em rec n (BZ rec n y m) b (g+s)
     else none
    else
     Em rec n (BZ rec n y m) b g
  else
   EN rec n g
def Jn (rec:Ty→Option Int) (n:Nat) (b:Ty):Option Int :=
 if decide (b.kind=8) then
  if decide (0<b.min) then
   (Ci b.elem 0).bind fun q =>
   (rec q).bind fun g =>
   if B2 (b.min*g) then
    if B2 (1+(b.min*g)) then
     EN rec n (1+(b.min*g))
    else none
   else none
  else
   EN rec n 1
 else
  if decide (b.kind=10) then
   (Ci b.fields 0).bind fun s =>
   (rec s.2.2.2.1).bind fun h =>
   if B2 (1+h) then
    EN rec n (1+h)
   else none
  else
   if decide (b.kind=9) then
    BZ rec n b n 1 0
   else
    EN rec n 1
def D6:Nat→Ty→Option Int
 | 0,_=>none
 | n+1,b=>Jn (D6 n) n b
def MC (w0:World) (F:Ty→Option Int):Prop:=∀ (B:List (List AV)) (Rw:List RowA) (L:List LoopA) (b:Ty) (r:Int),F b=some r→ACalls Tryz.prog w0 136 [.agg (b.cs)] ⟨B,Rw,L⟩ fun x st=>x = .val (.int .i64 r)∧st=⟨B,Rw,L⟩
theorem R7 (w0:World) (rec:Ty→Option Int) (ih:MC w0 rec) (n:Nat):MC w0 (Jn rec n):=by
 intro B Rw L a0 r h
 rw [Jn] at h
 refine hd [.tmp 2] Tryz.func136 Tryz.ntmps136 fun M0 W0 hN C x g hu i hs=>?_
 simp only [As]
 refine rg [1] hs ?_
 refine rg [1,3] hs ?_
 refine Au (fun e st=>∃ (j:Int),Ck e st B Rw L [(3,true,.val (.int .i64 j))] [a0.cs] [] (EN rec n j=some r)) ?_ ?_
 ·intro K5 q
  refine rg [1,3,7] hs ?_
  apply Ak
  refine rg [1,3,7,8] hs ?_
  refine AK h hs (fun hs h=>?_) (fun hs h=>?_)
  ·refine rg [1,3,12] hs ?_
   refine AK h hs (fun hs h=>?_) (fun hs h=>?_)
   ·obtain ⟨ad,ae,Z,k,h⟩:=ix HE h
    have y:(a0.elem.map HE).getD 0 .junk=_:=k
    obtain ⟨O,F,h⟩:=bind_some h
    obtain ⟨ak,h⟩:=Aj h
    obtain ⟨am,h⟩:=Aj h
    have hs:=Aa k hs
    have hs:=Aa y hs
    refine dk 10 2 1 [3] hs HD ?_
    refine Ai _ (ih _ _ _ ad _ F) (hv hs) ?_
    refine dn hs q ?_
    exact ⟨(1+(a0.min*O)),([]),Rw,ef hs,ef hs,i,h⟩
   refine sk [3] hs q ?_
   exact ⟨1,([]),Rw,ef hs,ef hs,i,h⟩
  refine rg [1,3,7,23] hs ?_
  refine AK h hs (fun hs h=>?_) (fun hs h=>?_)
  ·obtain ⟨aa,Q,Y,l,h⟩:=ix CJ h
   have v:(a0.fields.map CJ).getD 0 .junk=_:=l
   obtain ⟨N,E,h⟩:=bind_some h
   obtain ⟨ao,h⟩:=Aj h
   have hs:=Aa l hs
   have hs:=Aa v hs
   refine rk 2 [3] hs ?_
   refine Ai _ (ih _ _ _ aa.2.2.2.1 _ E) (hv hs) ?_
   refine ne hs q ?_
   exact ⟨(1+N),([]),Rw,ef hs,ef hs,i,h⟩
  refine rg [1,3,33] hs ?_
  refine AK h hs (fun hs h=>?_) (fun hs h=>?_)
  ·refine rg [3,36,37,38] hs ?_
   apply Ak
   refine Az (fun m e st=>∃ (b:Int) (a:Int),Ck e st B Rw L [(3,true,.val (.int .i64 b)),(36,true,.list (a0.fields.map CJ) .none),(37,true,.val (.int .i64 (a0.fields.length:Int))),(38,true,.val (.int .i64 a))] [a0.cs] [] (BZ rec n a0 m b a=some r)) n ⟨1,0,([]),Rw,ef hs,ef hs,i,h⟩ ?_
   rintro ml23 e st ⟨b,a,Xl23,Rl23,rfl,rfl,i,h⟩ Ul23 Vl23
   cases ml23 with
   | zero=>cases h
   | succ ml23 =>
   rw [BZ] at h
   refine td hN C x g i ?_
   refine rg [3,36,37,38,39] hs ?_
   apply Ah;intro K25 t
   refine AK h hs (fun hs h=>?_) (fun hs h=>?_)
   rotate_left
   ·refine sx [3] hs q ?_
    exact ⟨b,([]),Rl23,ef hs,ef hs,i,h⟩
   refine sk [3,36,37,38] hs t ?_
   clear t
   refine Au (fun e st=>∃ (d:Int),Ck e st B Rw L [(3,true,.val (.int .i64 d)),(36,true,.list (a0.fields.map CJ) .none),(37,true,.val (.int .i64 (a0.fields.length:Int))),(38,true,.val (.int .i64 a))] [a0.cs] [] (Em rec n (BZ rec n a0 ml23) a d=some r)) ?_ ?_
   ·intro K29 p
    apply Ak
    obtain ⟨c,H,h⟩:=bind_some h
    obtain ⟨V,K,w⟩:=Aw H
    have z:=Ax (f:=CJ) w
    have hs:=Aa z hs
    refine rg [3,5,36,37,38] hs ?_
    refine rg [3,5,36,37,38,43] hs ?_
    apply Ak
    refine rg [3,5,36,37,38,43,44] hs ?_
    refine AK h hs (fun hs h=>?_) (fun hs h=>?_)
    ·obtain ⟨ab,G,h⟩:=bind_some h
     obtain ⟨aj,h⟩:=Aj h
     refine rk 2 [3,36,37,38] hs ?_
     refine Ai _ (ih _ _ _ c.2.2.2.1 _ G) (hv hs) ?_
     refine ne hs p ?_
     exact ⟨(b+ab),([.val (.int .i64 c.1)::(.val (.string c.2.1)::(.val (.int .i64 c.2.2.1)::((c.2.2.2.1.cs)++([.list (c.2.2.2.2.map Bq) .none]))))]),Rl23,ef hs,ef hs,i,h⟩
    refine rg [3,5,36,37,38,51] hs ?_
    refine AK h hs (fun hs h=>?_) (fun hs h=>?_)
    ·obtain ⟨U,af,ag,o,h⟩:=ix Bq h
     have u:(c.2.2.2.2.map Bq).getD 0 .junk=_:=o
     obtain ⟨J,D,h⟩:=bind_some h
     obtain ⟨ai,h⟩:=Aj h
     have hs:=Aa o hs
     have hs:=Aa u hs
     refine rk 2 [3,36,37,38] hs ?_
     refine Ai _ (WT w0 _ _ _ U _ D) (hv hs) ?_
     refine ne hs p ?_
     exact ⟨(b+J),([.val (.int .i64 c.1)::(.val (.string c.2.1)::(.val (.int .i64 c.2.2.1)::((c.2.2.2.1.cs)++([.list (c.2.2.2.2.map Bq) .none]))))]),Rl23,ef hs,ef hs,i,h⟩
    refine sk [3,36,37,38] hs p ?_
    exact ⟨b,([.val (.int .i64 c.1)::(.val (.string c.2.1)::(.val (.int .i64 c.2.2.1)::((c.2.2.2.1.cs)++([.list (c.2.2.2.2.map Bq) .none]))))]),Rl23,ef hs,ef hs,i,h⟩
   ·clear h;rintro e st ⟨d,Xk28,Rk28,rfl,rfl,i,h⟩
    rw [Em] at h
    refine td hN C x g i ?_
    obtain ⟨ah,h⟩:=Aj h
    refine rl [3,36,37,38] hs (fun e s=>Vl23 ml23 e s (Nat.lt_succ_self _)) ?_
    exact ⟨d,(a+1),([]),Rk28,ef hs,ef hs,i,h⟩
  refine sk [3] hs q ?_
  exact ⟨1,([]),Rw,ef hs,ef hs,i,h⟩
 ·clear h;rintro e st ⟨j,Xk4,Rk4,rfl,rfl,i,h⟩
  rw [EN] at h
  refine td hN C x g i ?_
  refine rg [2] hs ?_
  exact rt h hs g i
theorem OJ (w0:World):∀ n:Nat,MC w0 (D6 n)
 | 0=>fun _ _ _ _ _ h=>(nomatch h)
 | n+1=>R7 w0 (D6 n) (OJ w0 n) n
def H7 (rec:Ty→Option Int) (n:Nat)  (b:Int):Option Int :=
 some (b)
def Df (rec:Ty→Option Int) (n:Nat) (s:Ty):Nat→Int→Int→Option Int
 | 0,_,_=>none
 | m+1,g,b =>
  if decide (b<(s.fields.length:Int)) then
   (Ci s.fields b).bind fun q =>
   (rec q.2.2.2.1).bind fun h =>
   if B2 (b+1) then
    (Df rec n s m) ((if g<h then h else g)) (b+1)
   else none
  else
   H7 rec n g
def IQ (rec:Ty→Option Int) (n:Nat) (g:Ty) (b:Int):Option Int :=
 Df rec n g n b 0
def Du (rec:Ty→Option Int) (n:Nat) (q:Ty):Nat→Int→Int→Option Int
 | 0,_,_=>none
 | m+1,g,b =>
  if decide (b<(q.elem.length:Int)) then
   (Ci q.elem b).bind fun s =>
   (rec s).bind fun h =>
   if B2 (b+1) then
    (Du rec n q m) ((if g<h then h else g)) (b+1)
   else none
  else
   IQ rec n q g
def Hq (rec:Ty→Option Int) (n:Nat) (b:Ty):Option Int :=
 (D6 n b).bind fun g =>
 Du rec n b n g 0
def Di:Nat→Ty→Option Int
 | 0,_=>none
 | n+1,b=>Hq (Di n) n b
def Jb (w0:World) (F:Ty→Option Int):Prop:=∀ (B:List (List AV)) (Rw:List RowA) (L:List LoopA) (b:Ty) (r:Int),F b=some r→ACalls Tryz.prog w0 81 [.agg (b.cs)] ⟨B,Rw,L⟩ fun x st=>x = .val (.int .i64 r)∧st=⟨B,Rw,L⟩
theorem PR (w0:World) (rec:Ty→Option Int) (ih:Jb w0 rec) (n:Nat):Jb w0 (Hq rec n):=by
 intro B Rw L a0 r h
 rw [Hq] at h
 refine hd [.tmp 2] Tryz.func81 Tryz.ntmps81 fun M0 W0 O p o g hu k hs=>?_
 simp only [As]
 refine rg [1] hs ?_
 obtain ⟨y3,Q,h⟩:=bind_some h
 refine rc 2 [1,3] hs ?_;intro K2 D
 refine Ai _ (OJ w0 n _ _ _ a0 _ Q) (hv hs) ?_
 refine ne hs D ?_
 clear D
 refine Au (fun e st=>∃ (i:Int),Ck e st B Rw L [(1,true,.box B.length 0),(3,true,.val (.int .i64 i))] [a0.cs] [] (IQ rec n a0 i=some r)) ?_ ?_
 ·intro K6 V
  refine rg [1,3,11,12,13] hs ?_
  apply Ak
  refine Az (fun m e st=>∃ (c:Int) (d:Int),Ck e st B Rw L [(1,true,.box B.length 0),(3,true,.val (.int .i64 c)),(11,true,.list (a0.elem.map HE) .none),(12,true,.val (.int .i64 (a0.elem.length:Int))),(13,true,.val (.int .i64 d))] [a0.cs] [] (Du rec n a0 m c d=some r)) n ⟨y3,0,([]),Rw,ef hs,ef hs,k,h⟩ ?_
  rintro ml8 e st ⟨c,d,Xl8,Rl8,rfl,rfl,k,h⟩ Ul8 Vl8
  cases ml8 with
  | zero=>cases h
  | succ ml8 =>
  rw [Du] at h
  refine td O p o g k ?_
  refine rg [1,3,11,12,13,14] hs ?_
  apply Ah;intro K10 q
  refine AK h hs (fun hs h=>?_) (fun hs h=>?_)
  rotate_left
  ·refine sx [1,3] hs V ?_
   exact ⟨c,([]),Rl8,ef hs,ef hs,k,h⟩
  refine sk [1,3,11,12,13] hs q ?_
  clear q
  apply Ah;intro K12 v
  apply Ak
  obtain ⟨J,E,h⟩:=bind_some h
  obtain ⟨Z,aa,w⟩:=Aw E
  have z:=Ax (f:=HE) w
  have hs:=Aa z hs
  refine rg [1,3,5,11,12,13] hs ?_
  obtain ⟨K,N,h⟩:=bind_some h
  refine rk 2 [1,3,11,12,13] hs ?_
  refine Ai _ (ih _ _ _ J _ N) (hv hs) ?_
  refine ne hs v ?_
  clear v
  obtain ⟨ad,h⟩:=Aj h
  refine rl [1,3,11,12,13] hs (fun e s=>Vl8 ml8 e s (Nat.lt_succ_self _)) ?_
  exact ⟨((if c<K then K else c)),(d+1),([J.cs]),Rl8,ef hs,ef hs,k,h⟩
 ·clear h;rintro e st ⟨i,Xk5,Rk5,rfl,rfl,k,h⟩
  rw [IQ] at h
  refine td O p o g k ?_
  refine Au (fun e st=>∃ (j:Int),Ck e st B Rw L [(3,true,.val (.int .i64 j))] [a0.cs] [] (H7 rec n j=some r)) ?_ ?_
  ·intro K19 F
   refine rg [3,23,24,25] hs ?_
   apply Ak
   refine Az (fun m e st=>∃ (a:Int) (b:Int),Ck e st B Rw L [(3,true,.val (.int .i64 a)),(23,true,.list (a0.fields.map CJ) .none),(24,true,.val (.int .i64 (a0.fields.length:Int))),(25,true,.val (.int .i64 b))] [a0.cs] [] (Df rec n a0 m a b=some r)) n ⟨i,0,([]),Rk5,ef hs,ef hs,k,h⟩ ?_
   rintro ml21 e st ⟨a,b,Xl21,Rl21,rfl,rfl,k,h⟩ Ul21 Vl21
   cases ml21 with
   | zero=>cases h
   | succ ml21 =>
   rw [Df] at h
   refine td O p o g k ?_
   refine rg [3,23,24,25,26] hs ?_
   apply Ah;intro K23 t
   refine AK h hs (fun hs h=>?_) (fun hs h=>?_)
   rotate_left
   ·refine sx [3] hs F ?_
    exact ⟨a,([]),Rl21,ef hs,ef hs,k,h⟩
   refine sk [3,23,24,25] hs t ?_
   clear t
   apply Ah;intro K25 u
   apply Ak
   obtain ⟨l,G,h⟩:=bind_some h
   obtain ⟨U,Y,y⟩:=Aw G
   have x:=Ax (f:=CJ) y
   have hs:=Aa x hs
   refine rg [3,7,23,24,25] hs ?_
   obtain ⟨C,H,h⟩:=bind_some h
   refine rk 2 [3,23,24,25] hs ?_
   refine Ai _ (ih _ _ _ l.2.2.2.1 _ H) (hv hs) ?_
   refine ne hs u ?_
   clear u
   obtain ⟨ab,h⟩:=Aj h
   refine rl [3,23,24,25] hs (fun e s=>Vl21 ml21 e s (Nat.lt_succ_self _)) ?_
   exact ⟨((if a<C then C else a)),(b+1),([.val (.int .i64 l.1)::(.val (.string l.2.1)::(.val (.int .i64 l.2.2.1)::((l.2.2.2.1.cs)++([.list (l.2.2.2.2.map Bq) .none]))))]),Rl21,ef hs,ef hs,k,h⟩
  ·clear h;rintro e st ⟨j,Xk18,Rk18,rfl,rfl,k,h⟩
   rw [H7] at h
   refine td O p o g k ?_
   refine rg [2] hs ?_
   exact rt h hs g k
theorem L6 (w0:World):∀ n:Nat,Jb w0 (Di n)
 | 0=>fun _ _ _ _ _ h=>(nomatch h)
 | n+1=>PR w0 (Di n) (L6 w0 n) n
def EZ (n:Nat) (h:Ty):Option Int :=
 (I9 n h 1 4096).bind fun g =>
 if !(decide (g.1=0)) then
  some (g.1)
 else
  (Di n h).bind fun b =>
  if decide (4096<b) then
   some (9)
  else
   some (0)
theorem KY (w0:World) (hT:Lib.Utf8Tabs 0 1 w0) (n:Nat) (B:List (List AV)) (Rw:List RowA) (L:List LoopA) (a0:Ty) (r:Int) (h:EZ n a0=some r) :
  ACalls Tryz.prog w0 30 [.agg (a0.cs)] ⟨B,Rw,L⟩ fun x st=>x = .val (.int .i64 r)∧st=⟨B,Rw,L⟩:=by
 rw [EZ] at h
 refine hd [.tmp 2] Tryz.func30 Tryz.ntmps30 fun M0 W0 p k l a o i hs=>?_
 simp only [As]
 refine rg [1] hs ?_
 refine rg [1,3] hs ?_
 apply Ah;intro K3 c
 obtain ⟨m,g,h⟩:=bind_some h
 refine rc 2 [1,4] hs ?_;intro K4 e
 refine BE _ (Vs w0 hT n _ _ _ a0 1 (B.length+1) 4096 ev _ g) (hv hs) ?_;rintro _ _ ⟨rfl,rfl⟩
 refine ne hs e ?_
 clear e
 refine rg [1,4,8] hs ?_
 refine AK h hs (fun hs h=>?_) (fun hs h=>?_)
 ·refine rg [2] hs ?_
  exact rt h hs a i
 refine sk [1] hs c ?_
 clear c
 apply Ah;intro K9 f
 obtain ⟨j,d,h⟩:=bind_some h
 refine rc 2 [12] hs ?_;intro K10 b
 refine Ai _ (L6 w0 n _ _ _ a0 _ d) (hv hs) ?_
 refine ne hs b ?_
 clear b
 refine AK h hs (fun hs h=>?_) (fun hs h=>?_)
 ·refine rg [2] hs ?_
  exact rt h hs a i
 refine sk [] hs f ?_
 clear f
 refine rg [2] hs ?_
 exact rt h hs a i
def Dn (n:Nat) (g:List (ByteArray × Vl)) (b:(ByteArray × Vl)→Option Bool):Option Bool :=
 (CB n g b).bind fun h =>
 some (decide (0≤h))
theorem Md (w0:World) (n:Nat) (B:List (List AV)) (Rw:List RowA) (L:List LoopA) (a0:List (ByteArray × Vl)) (fa1:FuncId) (ca1:List AV) (a1:(ByteArray × Vl)→Option Bool) (ha1:∀ (x0:ByteArray × Vl) r,a1 x0=some r→∀ B' rows,B <+: B'→Rw <+: rows→ACalls Tryz.prog w0 fa1 ([.agg (.val (.string x0.1)::(x0.2.cs))]++ca1) ⟨B',rows,L⟩ fun v s=>v = .val (.bool r)∧s=⟨B',rows,L⟩) (r:Bool) (h:Dn n a0 a1=some r) :
  ACalls Tryz.prog w0 216 [.list (a0.map Cf) .none,.clo fa1 ca1] ⟨B,Rw,L⟩ fun x st=>x = .val (.bool r)∧st=⟨B,Rw,L⟩:=by
 rw [Dn] at h
 refine hd [.tmp 4] Tryz.func216 Tryz.ntmps216 fun M0 W0 p j l b i g hs=>?_
 simp only [As]
 have e:=Cm (i (.clo fa1 ca1) (by simp))
 refine rg [0,1] hs ?_
 obtain ⟨q,f,h⟩:=bind_some h
 refine rc 2 [4] hs ?_;intro K2 c
 refine Ai _ (IZ w0 n _ _ _ a0 fa1 ca1 a1 (fun x0 r k d a m o=>ha1 x0 r k d a (List.IsPrefix.trans px m) (g.pre.trans o)) _ f) (hv hs) ?_
 refine ne hs c ?_
 clear c
 exact rt h hs b g
def D3 (b:ByteArray × Vl) (g:ByteArray × Vl):Bool :=
 (DR b.1 g.1)&&(!(BJ b.2))
theorem VV (w0:World) (B:List (List AV)) (Rw:List RowA) (L:List LoopA) (a0:ByteArray × Vl) (la1:Nat) (a1:ByteArray × Vl) (hla1:B[la1]? = some (.val (.string a1.1)::(a1.2.cs))) (r:Bool) (h:D3 a0 a1=r) :
  ACalls Tryz.prog w0 217 [.agg (.val (.string a0.1)::(a0.2.cs)),.box la1 0] ⟨B,Rw,L⟩ fun x st=>x = .val (.bool r)∧st=⟨B,Rw,L⟩:=by
 rw [D3] at h
 refine hd [.tmp 3] Tryz.func217 Tryz.ntmps217 fun M0 W0 i d f a g e hs=>?_
 simp only [As]
 have c:=(Ag.1 hla1).1
 have hs:=Aa (An hla1) hs
 refine rg [1,2] hs ?_
 refine rc 2 [3] hs ?_;intro K2 b
 refine EL _ (fun _=>NM w0 _ _ _ a0.2) (hv hs) ?_
 refine ne hs b ?_
 clear b
 exact rT h hs a e
theorem Vb (w0:World) (B:List (List AV)) (Rw:List RowA) (L:List LoopA) (a0:ByteArray × Vl) (la1:Nat) (a1:ByteArray × Vl) (hla1:B[la1]? = some (.val (.string a1.1)::(a1.2.cs))) :
  ACalls Tryz.prog w0 217 [.agg (.val (.string a0.1)::(a0.2.cs)),.box la1 0] ⟨B,Rw,L⟩ fun x st=>x = .val (.bool (D3 a0 a1))∧st=⟨B,Rw,L⟩:=VV w0 B Rw L a0 la1 a1 hla1 _ rfl
structure VPre (Rw rows:List RowA):Prop where
 pre:Rw <+: rows
def Oq:ByteArray × Vl:=(⟨#[]⟩,Vl.mk 0 0 0 ⟨#[]⟩ [] [])
def Bz (l:List (ByteArray × Vl)):List (ByteArray × Vl):=MM Prod.fst Oq l
theorem Gi (l:List (ByteArray × Vl)):(Bz l).length=l.length:=by simp only [Bz,MM,List.length_map];exact Hz _ _
theorem KE (x:ByteArray × Vl):(Cf x).cells.length=7∧Bc (Cf x)=true:=by simp +decide only [go_sem,and_self]
theorem Z9 (x:ByteArray × Vl):(Cf x).pub=Cf x:=by simp +decide only [go_sem]
theorem Yq (x:ByteArray × Vl):∀ c∈(Cf x).cells,∀ a b d,Under a b d c:=by
 intro c hc a b d
 simp only [Cf,AV.cells,List.mem_cons] at hc
 rcases hc with rfl | hc
 ·exact .val _
 ·exact x.2.under a b d c hc
theorem ZcK (w0:World) (st:St):ACalls Tryz.prog w0 218 [.list [] .none,.clo 219 []] st fun r s=>r = .tup []∧s=st:=by
 refine ⟨Bh Tryz.func218 rfl (by decide),fun M w c e d=>?_⟩
 obtain ⟨v0,v1,rfl⟩:∃ v0 v1,c = #[v0,v1]:=by
  have hs:=d.1
  simp only [List.length_cons,List.length_nil] at hs
  match c,hs with
  | ⟨[a,b]⟩,_=>exact ⟨a,b,rfl⟩
 have h0:R w0 M w v0 (.list [] .none):=d.2 0 (by simp) (by simp)
 obtain ⟨p,cap,rfl⟩:∃ p cap,v0 = .slice p 0 cap:=by
  generalize hx:AV.list [] Ev.Own.none=x at h0
  cases h0 with
  | nil ho=>exact ⟨_,_,rfl⟩
  | emp ho=>exact ⟨_,_,rfl⟩
  | list sz us hc hm hcell hu ho=>cases hx;exact ⟨_,_,rfl⟩
  | _=>cases hx
 have h:=AnyF.slices_SortFunc_none (P:=Tryz.prog) (ρ:=Tryz.laysSort_ren) Tryz.laysSort p cap v1 w
 refine h.mono ?_
 rintro en g ⟨rfl,rfl⟩
 exact ⟨.tuple #[],M,.tup [],st,rfl,⟨rfl,rfl⟩,.refl _ _ _,e,.tup rfl (fun i f _=>absurd f (by simp))⟩
theorem ZbV (w0:World) {st:St} {id ver:Nat} (l:List (ByteArray × Vl)) (hid:st.rows[id]? = some (.vec ver 7 (l.flatMap fun x=>(Cf x).cells))) (hn:0<l.length) (hz:l.length<4611686018427387904) :
  ACalls Tryz.prog w0 218 [.vec id ver 0 l.length,.clo 219 []] st fun r s=>r = .tup []∧s={ st with rows:=st.rows.set id (.vec ver 7 ((Bz l).flatMap fun x=>(Cf x).cells)) } :=
 Zca (ρ:=Tryz.laysSort_ren) Tryz.laysSort (Bh Tryz.func218 rfl (by decide)) 6 Tryz.isAgg75 Tryz.sizeOf75 219 (Bh Tryz.func219 rfl (by decide))
  (fun s b r c W e f a d=>ZaK s b r c W e f a d) Cf Prod.fst Oq l (fun x=>⟨x.2.cs,rfl,Vl.cs_length _⟩) hid hn hz
def IR (n:Nat) (g:Int→(List (ByteArray × Vl))→Option Vl) (b:Int) (b1_k12_5:List (ByteArray × Vl)):Option Vl :=
 if B2 (b+1) then
  g (b+1) b1_k12_5
 else none
def Jy (n:Nat)  (b1_k4_5:List (ByteArray × Vl)):Option Vl :=
 if b1_k4_5.length<4611686018427387904 then
  (BU n (Vl.mk 9 0 0 ((⟨#[]⟩:ByteArray)) ([]) (Bz b1_k4_5))).bind fun b =>
  some (b)
 else none
def EA (n:Nat) (g:List (ByteArray × Vl)):Nat→Int→(List (ByteArray × Vl))→Option Vl
 | 0,_,_=>none
 | m+1,b,b1_l7_5 =>
  if decide (b<(g.length:Int)) then
   (Ci g b).bind fun h =>
   if B2 (b+1) then
    if 0≤b+1∧b+1≤(g.length:Int)∧(g.length:Int)≤(g.length:Int) then
     (Dn n (g.drop (b+1).toNat) (fun (s:ByteArray × Vl)=>some (D3 s h))).bind fun q =>
     if (!(BJ h.2))&&(!q) then
      if (b1_l7_5.length+1)*104≤140737488355328∧b1_l7_5.length+1≤4611686018427387904 then
       IR n (EA n g m) b (b1_l7_5++([h]))
      else none
     else
      IR n (EA n g m) b b1_l7_5
    else none
   else none
  else
   Jy n b1_l7_5
def KP (n:Nat) (b:List (ByteArray × Vl)):Option Vl :=
 EA n b n 0 ([])
theorem YQ (w0:World) (n:Nat) (B:List (List AV)) (Rw:List RowA) (L:List LoopA) (a0:List (ByteArray × Vl)) (r:Vl) (h:KP n a0=some r) :
  ACalls Tryz.prog w0 171 [.list (a0.map Cf) .none] ⟨B,Rw,L⟩ fun x st=>x = .agg (r.cs)∧st=⟨B,Rw,L⟩:=by
 rw [KP] at h
 refine hd [.cell 2 46] Tryz.func171 Tryz.ntmps171 fun M0 W0 hN F E k hu l hs=>?_
 simp only [As]
 refine rg [0,2] hs ?_
 apply Ah;intro K2 K
 apply Ao 1 [0,2,3]
 rw [Am];simp +decide only [go_sem,Nat.reduceAdd,QE,OE,J5]
 (repeat' apply Aa)<;>first | refine K _ _ ?_ | exact cl
 clear K
 refine Au (fun e st=>∃ (a:List (ByteArray × Vl)) (j:AV) (Xk4:List (List AV)) (Rk4:List RowA),e=[(2,true,.box B.length 0),(3,true,.box (B.length+1) 0)]∧st=⟨B++([[.val (.int .i64 0),.val (.int .i64 0),.val (.int .i64 0),.val (.string ((⟨#[]⟩:ByteArray))),.list ([]) .full,.list ([]) .full],[.val (.int .i64 9),.val (.int .i64 0),.val (.int .i64 0),.val (.string ((⟨#[]⟩:ByteArray))),.list ([]) .full,j]]++Xk4),Rk4,L⟩∧VOne Rw Rk4 7 (a.map Cf) j∧Jy n a=some r) ?_ ?_
 ·intro K5 af
  refine Q4 (B.length+1) 5 (by first | rfl | (simp only [Kw,IG];rfl)) rfl ?_;simp +decide only [go_sem,Nat.reduceAdd,List.set_cons_succ,List.set_cons_zero]
  refine rg [0,2,3,8,9,10] hs ?_
  apply Ak
  refine Az (fun m e st=>∃ (g:Int) (c:List (ByteArray × Vl)) (b:AV) (Xl7:List (List AV)) (Rl7:List RowA),e=[(0,true,.list (a0.map Cf) .none),(2,true,.box B.length 0),(3,true,.box (B.length+1) 0),(8,true,.list (a0.map Cf) .none),(9,true,.val (.int .i64 (a0.length:Int))),(10,true,.val (.int .i64 g))]∧st=⟨B++([[.val (.int .i64 0),.val (.int .i64 0),.val (.int .i64 0),.val (.string ((⟨#[]⟩:ByteArray))),.list ([]) .full,.list ([]) .full],[.val (.int .i64 9),.val (.int .i64 0),.val (.int .i64 0),.val (.string ((⟨#[]⟩:ByteArray))),.list ([]) .full,b]]++Xl7),Rl7,L⟩∧VOne Rw Rl7 7 (c.map Cf) b∧EA n a0 m g c=some r) n ⟨0,[],.list [] .seed,[],Rw,ef hs,ef hs,VOne.none Rw 7,h⟩ ?_
  rintro ml7 e st ⟨g,c,b,Xl7,Rl7,rfl,rfl,l,h⟩ Ul7 Vl7
  cases ml7 with
  | zero=>cases h
  | succ ml7 =>
  rw [EA] at h
  have hU:=l.under (B.length+2) L.length
  refine tdV hN F E k l ?_
  refine rg [0,2,3,8,9,10,11] hs ?_
  apply Ah;intro K9 N
  refine AK h hs (fun hs h=>?_) (fun hs h=>?_)
  rotate_left
  ·refine sx [2,3] hs af ?_
   exact ⟨c,b,([]),Rl7,ef hs,ef hs,VOne.of_eq l (by simp only [List.map_append,List.map_cons,List.map_nil]),h⟩
  refine sk [0,2,3,8,9,10] hs N ?_
  clear N
  refine Au (fun e st=>∃ (i:List (ByteArray × Vl)) (d:AV) (Xk12:List (List AV)) (Rk12:List RowA),e=[(0,true,.list (a0.map Cf) .none),(2,true,.box B.length 0),(3,true,.box (B.length+1) 0),(8,true,.list (a0.map Cf) .none),(9,true,.val (.int .i64 (a0.length:Int))),(10,true,.val (.int .i64 g))]∧st=⟨B++([[.val (.int .i64 0),.val (.int .i64 0),.val (.int .i64 0),.val (.string ((⟨#[]⟩:ByteArray))),.list ([]) .full,.list ([]) .full],[.val (.int .i64 9),.val (.int .i64 0),.val (.int .i64 0),.val (.string ((⟨#[]⟩:ByteArray))),.list ([]) .full,d]]++Xk12),Rk12,L⟩∧VOne Rw Rk12 7 (i.map Cf) d∧IR n (EA n a0 ml7) g i=some r) ?_ ?_
  ·intro K13 v
   apply Ak
   obtain ⟨x15,J,h⟩:=bind_some h
   obtain ⟨V,Z,G⟩:=Aw J
   have H:=Ax (f:=Cf) G
   have hs:=Aa H hs
   refine rg [0,2,3,4,5,8,9,10] hs ?_
   obtain ⟨ai,h⟩:=Aj h
   obtain ⟨ag,h⟩:=Aj h
   obtain ⟨aj,hy19,h⟩:=bind_some h
   refine rc 2 [0,2,3,5,6,8,9,10] hs ?_;intro K16 w
   refine Ai _ (Md w0 n _ _ _ (a0.drop (g+1).toNat) 217 [.box (B.length+2) 0] (fun (x0:ByteArray × Vl)=>some (D3 x0 x15)) (fun x0 r hx B' Q hB' ak=>by cases hx;exact Vb w0 _ _ _ x0 _ x15 (DW hB' (ef hs))) _ hy19) (hv hs) ?_
   refine ne hs w ?_
   clear w
   refine rc 2 [0,2,3,5,8,9,10,28] hs ?_;intro K20 D
   refine Ai _ (NM w0 _ _ _ x15.2) (hv hs) ?_
   refine ne hs D ?_
   clear D
   refine AK h hs (fun hs h=>?_) (fun hs h=>?_)
   ·obtain ⟨C,h⟩:=Aj h
    obtain ⟨ab,u,l,o⟩:=l.append (P:=Tryz.prog) (y:=Cf x15) Qk (by rw [KV];rfl) (by decide) (by rw [List.length_map];exact C.1) (by rw [List.length_map];exact C.2) (KE x15) (Z9 x15) (Yq x15) (fun z hz=>by obtain ⟨y,_,rfl⟩:=List.mem_map.1 hz;exact (KE y).1)
    simp only [Hk] at o
    replace o:=Aa o l.cell
    have hs:=Aa o hs
    refine rl [0,2,3,8,9,10] hs v ?_
    exact ⟨(c++([x15])),ab,([.val (.string x15.1)::(x15.2.cs)]),u,ef hs,ef hs,VOne.of_eq l (by simp only [List.map_append,List.map_cons,List.map_nil]),h⟩
   refine sk [0,2,3,8,9,10] hs v ?_
   exact ⟨c,b,([.val (.string x15.1)::(x15.2.cs)]),Rl7,ef hs,ef hs,VOne.of_eq l (by simp only [List.map_append,List.map_cons,List.map_nil]),h⟩
  ·clear h;rintro e st ⟨i,d,Xk12,Rk12,rfl,rfl,l,h⟩
   rw [IR] at h
   have hU:=l.under (B.length+2) L.length
   refine tdV hN F E k l ?_
   obtain ⟨ah,h⟩:=Aj h
   refine rl [0,2,3,8,9,10] hs (fun e s=>Vl7 ml7 e s (Nat.lt_succ_self _)) ?_
   exact ⟨(g+1),i,d,([]),Rk12,ef hs,ef hs,VOne.of_eq l (by simp only [List.map_append,List.map_cons,List.map_nil]),h⟩
 ·clear h;rintro e st ⟨a,j,Xk4,Rk4,rfl,rfl,l,h⟩
  rw [Jy] at h
  have hU:=l.under (B.length+2) L.length
  refine tdV hN F E k l ?_
  obtain ⟨ad,h⟩:=Aj h
  rcases l.at_ with ⟨hnil,rfl⟩ | ⟨id,ver,rfl,hpos,hid,hrow⟩
  ·have hb0:a=[]:=List.map_eq_nil_iff.1 hnil
   subst hb0
   refine rc 2 [2,3] hs ?_;intro K27 p
   refine Ai _ (ZcK w0 _) (hv hs) ?_
   refine ne hs p ?_
   clear p
   obtain ⟨ae,t,h⟩:=bind_some h
   rw [show Bz []=[] from List.eq_nil_of_length_eq_zero (Gi [])] at t
   refine rc 2 [2] hs ?_;intro K28 q
   refine Ai _ (G3 w0 n _ _ _ (Vl.mk 9 0 0 ((⟨#[]⟩:ByteArray)) ([]) []) _ t) (hv hs) ?_
   refine ne hs q ?_
   clear q
   exact rt h hs k l
  ·rw [List.length_map] at hpos
   rw [List.length_map]
   rw [show ((a.map Cf).flatMap AV.cells)=a.flatMap fun x=>(Cf x).cells from List.flatMap_map ..] at hrow
   refine rc 2 [2,3] hs ?_;intro K27 p
   refine BE _ (ZbV w0 (st:=⟨_,_,_⟩) a hrow hpos ad) (hv hs) ?_;rintro _ _ ⟨rfl,rfl⟩
   refine ne hs p ?_
   clear p
   have aa:=(Ag.1 hrow).1
   have U:EW (Rk4.set id (.vec ver 7 ((Bz a).flatMap fun x=>(Cf x).cells))) id ver=some (7,(Bz a).flatMap fun x=>(Cf x).cells):=by simp [EW,aa]
   have O:(Bz a).length=a.length:=Gi _
   refine OY (B.length+1) 5 true (by first | rfl | (simp only [Kw,IG];rfl)) rfl U (.inl rfl) (by rw [Nat.zero_add,Pn (fun x _=>(KE x).1),O];exact Nat.le_refl _) ?_
   have Y:PQ 7 true ((Bz a).flatMap fun x=>(Cf x).cells) 0 a.length=(Bz a).map Cf:=by
    have:=Zcp (ys:=(Bz a).map Cf) (sz:=7) (fun y hy=>by obtain ⟨x,_,rfl⟩:=List.mem_map.1 hy;exact ⟨_,rfl,(KE x).1⟩)
    rw [List.length_map,O,List.flatMap_map] at this
    exact this
   rw [Y]
   simp +decide only [go_sem,Nat.reduceAdd,List.set_cons_succ,List.set_cons_zero]
   obtain ⟨ae,t,h⟩:=bind_some h
   have l:VPre Rw ((Rk4.set id (.vec ver 7 ((Bz a).flatMap fun x=>(Cf x).cells))).set id (.dead (ver+1))):=⟨Ku (Ku l.pre hid _) hid _⟩
   refine rc 2 [2] hs ?_;intro K28 q
   refine Ai _ (G3 w0 n _ _ _ (Vl.mk 9 0 0 ((⟨#[]⟩:ByteArray)) ([]) (Bz a)) _ t) (hv hs) ?_
   refine ne hs q ?_
   clear q
   exact rt h hs k l
def JA (n:Nat) (g:ByteArray) (b:Vl):Option Vl :=
 (BU n (Vl.mk 10 0 0 g ([b]) ([]))).bind fun h =>
 some (h)
theorem XO (w0:World) (n:Nat) (B:List (List AV)) (Rw:List RowA) (L:List LoopA) (a0:ByteArray) (a1:Vl) (r:Vl) (h:JA n a0 a1=some r) :
  ACalls Tryz.prog w0 134 [.val (.string a0),.agg (a1.cs)] ⟨B,Rw,L⟩ fun x st=>x = .agg (r.cs)∧st=⟨B,Rw,L⟩:=by
 rw [JA] at h
 refine hd [.cell 4 46] Tryz.func134 Tryz.ntmps134 fun M0 W0 i d f a g e hs=>?_
 simp only [As]
 refine rg [0,3,4] hs ?_
 obtain ⟨j,c,h⟩:=bind_some h
 refine rc 2 [4] hs ?_;intro K2 b
 refine Ai _ (G3 w0 n _ _ _ (Vl.mk 10 0 0 a0 ([a1]) ([])) _ c) (hv hs) ?_
 refine ne hs b ?_
 clear b
 exact rt h hs a e
def O0 {α:Type} (p:α→Bool) (l:List α) (j:Nat):Int :=
 if (l.drop j).findIdx p<(l.drop j).length then (j:Int)+((l.drop j).findIdx p:Nat) else -1
theorem LV {α:Type} (p:α→Bool) (l:List α) (j:Nat) (h:l.length≤j):O0 p l j = -1:=by
 unfold O0
 rw [List.drop_eq_nil_of_le h];rfl
theorem JV {α:Type} (p:α→Bool) (l:List α) (j:Nat) (h:j<l.length):O0 p l j=if p l[j]=true then (j:Int) else O0 p l (j+1):=by
 unfold O0
 rw [List.drop_eq_getElem_cons h,List.findIdx_cons]
 cases hp:p l[j] with
 | true=>simp;omega
 | false =>
  simp only [cond_false,List.length_cons,Bool.false_eq_true,if_false]
  by_cases q:(l.drop (j+1)).findIdx p<(l.drop (j+1)).length
  ·rw [Ae (by omega),Ae q];push_cast;omega
  ·rw [Af (by omega),Af q]
theorem RV {α:Type} (p:α→Bool) (l:List α):∀ (k j:Nat),j+k=l.length→O0 p l j = -1∨∃ i,∃ h:i<l.length,O0 p l j=(i:Int)∧p l[i]=true
 | 0,j,h => .inl (LV p l j (by omega))
 | k+1,j,h=>by
  have a:j<l.length:=by omega
  rw [JV p l j a]
  by_cases hp:p l[j]=true
  ·rw [Ae hp];exact .inr ⟨j,a,rfl,hp⟩
  ·rw [Af hp];exact RV p l k (j+1) (by omega)
theorem RD (n:Nat) (l:List TF) (p:TF→Bool) (hl:l.length≤1000000000):∀ (k m i:Nat),i+k=l.length→k<m→AW n l (fun x=>some (p x)) m i=some (O0 p l i)
 | k,0,i,_,h=>absurd h (Nat.not_lt_zero _)
 | 0,m+1,i,hi,_=>by
  rw [AW,Av,Ac (by omega),LV p l i (by omega)]
  rfl
 | k+1,m+1,i,hi,hm=>by
  have a:i<l.length:=by omega
  rw [AW,Av,Ad a]
  simp only [if_true,AD a,Ab]
  rw [JV p l i a]
  by_cases hp:p l[i]=true
  ·rw [Ae hp,Ae hp]
  ·rw [Af hp,Af hp,Ae (AA (by omega))]
   exact RD n l p hl k m (i+1) (by omega) (by omega)
def Ns:TF:=(0,(⟨#[]⟩:ByteArray),0,Ty.mk 0 0 0 0 [] [] [],[])
theorem Zf3 (n:Nat) (t:Ty) (p:TF→Bool) (hn:t.size+1450000≤n) (ht:t.small) :
  (t.kind≠9∧t.kind≠10∧JE n t (fun x=>some (p x))=some (Ns,false)) ∨
  ((t.kind=9∨t.kind=10)∧((O0 p t.fields 0 = -1∧JE n t (fun x=>some (p x))=some (Ns,false))∨∃ i,∃ h:i<t.fields.length,O0 p t.fields 0=(i:Int)∧JE n t (fun x=>some (p x))=some (t.fields[i],true))):=by
 obtain ⟨g,j,b⟩:=ht
 have f:=t.lens
 rw [JE]
 by_cases hk:t.kind=9∨t.kind=10
 ·right
  refine ⟨hk,?_⟩
  rw [Af (by simp only [Bool.and_eq_true,Bool.not_eq_true',decide_eq_false_iff_not];omega)]
  rw [A3]
  have e:=RD n t.fields p (by omega) t.fields.length n 0 (by omega) (by omega)
  rw [show ((0:Nat):Int)=0 from rfl] at e
  rw [e]
  simp only [Ab]
  rcases RV p t.fields t.fields.length 0 (by omega) with q | ⟨i,hi,q,hp⟩
  ·rw [q];left;exact ⟨rfl,rfl⟩
  ·rw [q];right
   refine ⟨i,hi,rfl,?_⟩
   rw [Ac (by omega)]
   simp only [Bool.false_eq_true,if_false,AD hi,Ab]
   obtain ⟨_,c,d,a⟩:=(t.ok_eq.1 b).2.2.2 _ (List.getElem_mem hi)
   have hs:=t.field_size _ (List.getElem_mem hi)
   rw [Zex (Hw n) n t.fields[i] (by omega) (by omega) (fun v hv=>RX n v (by have:=(a v hv).1;omega) (by have:=(a v hv).1;omega)) (RS n _ (by omega) (by omega) c)]
   rfl
 ·left
  refine ⟨fun h=>hk (.inl h),fun h=>hk (.inr h),?_⟩
  rw [Ae (by simp only [Bool.and_eq_true,Bool.not_eq_true',decide_eq_false_iff_not];omega)]
  rfl
def CP (b:Ty) (g:Int) (h:Int):Bool :=
 ((decide (g≤b.min))&&(decide (b.max≤h)))&&(decide (b.min≤b.max))
def Mc (g:Int) (b:Bool):(Int × Int) :=
 if b then
  (0,1024)
 else
  if decide (g=6) then
   ((-719162),2932896)
  else
   if decide (g=7) then
    ((-62135596800000),253402300799999)
   else
    (0,256)
def NC (g:Int) (b:Bool):(Int × Int) :=
 if b then
  ((-999999999999999),999999999999999)
 else
  if decide (g=4) then
   Mc g true
  else
   Mc g (decide (g=5))
def AE (b:Int):(Int × Int) :=
 if decide (b=2) then
  NC b true
 else
  NC b (decide (b=3))
def BN (b:Ty):Bool :=
 (((((!(decide (2≤b.kind)&&decide (b.kind≤8)))&&((!(decide (b.min=0)))||(!(decide (b.max=0)))))||((!(decide (b.kind=3)))&&(!(decide (b.scale=0)))))||((!(decide (b.kind=4)))&&(decide (0<(b.words.length:Int)))))||((!(decide (b.kind=8)))&&(decide (0<(b.elem.length:Int)))))||(((!(decide (b.kind=9)))&&(!(decide (b.kind=10))))&&(decide (0<(b.fields.length:Int))))
end Go.Proofs.YtgpmlelfkjfbiaaGreatDoor
