/-
  Part 4 of the proof: rules and walks that the claim's last text uses.
-/
import Derived.Test.YtgpmlelfkjfbiaaGreatDoorSr3
set_option linter.unusedSimpArgs false
set_option linter.unusedVariables false
set_option maxRecDepth 100000
set_option maxHeartbeats 4000000
namespace Go.Proofs.YtgpmlelfkjfbiaaGreatDoor
open Go Go.RowKit Go.Ev
theorem Az {α:Type} {l:List α} {k:Nat} (h:k<l.length):B7 l (k:Int)=some l[k]:=Zim h
theorem As {a b:Nat}:decide ((a:Int)<(b:Int))=decide (a<b):=by simp
theorem Av {k:Nat} (h:k<1000000000000):BQ ((k:Int)+1):=by unfold BQ;omega
theorem Ty.size_pos (t:Ty):0<t.size:=by cases t;simp [Ty.size];omega
theorem Ty.size_eq (t:Ty):t.size=1+FI t.elem+B9 t.fields:=by cases t;simp [Ty.size,Ty.elem,Ty.fields]
theorem UK:∀ (l:List Ty) (v:Ty),v∈l→v.size≤FI l
 | [],_,h=>by simp at h
 | a::r,v,h=>by
  rcases List.mem_cons.1 h with rfl | h
  ·simp [FI]
  ·have:=UK r v h
   simp [FI];omega
theorem SJ:∀ (l:List (Int × ByteArray × Int × Ty × List Vl)) (p:Int × ByteArray × Int × Ty × List Vl),p∈l→p.2.2.2.1.size≤B9 l
 | [],_,h=>by simp at h
 | (a,b,c,t,d)::r,p,h=>by
  rcases List.mem_cons.1 h with rfl | h
  ·simp [B9]
  ·have:=SJ r p h
   simp [B9];omega
theorem TP:∀ l:List Ty,l.length≤FI l
 | []=>Nat.le_refl _
 | v::r=>by have:=TP r;have:=v.size_pos;simp [FI];omega
theorem S8:∀ l:List (Int × ByteArray × Int × Ty × List Vl),l.length≤B9 l
 | []=>Nat.le_refl _
 | (_,_,_,t,_)::r=>by have:=S8 r;have:=t.size_pos;simp [B9];omega
theorem Ty.elem_size (t x:Ty) (h:x∈t.elem):x.size<t.size:=by have:=UK _ _ h;have:=t.size_eq;omega
theorem Ty.field_size (t:Ty) (p) (h:p∈t.fields):p.2.2.2.1.size<t.size:=by have:=SJ _ _ h;have:=t.size_eq;omega
theorem Ty.lens (t:Ty):t.elem.length<t.size∧t.fields.length<t.size:=by have:=TP t.elem;have:=S8 t.fields;have:=t.size_eq;omega
theorem Vl.list_size (v x:Vl) (h:x∈v.list):x.size<v.size:=by have:=Nu _ _ h;have:=v.size_eq;omega
theorem Vl.field_size (v:Vl) (p) (h:p∈v.fields):p.2.size<v.size:=by have:=NE _ _ h;have:=v.size_eq;omega
mutual
def Ty.depth:Ty→Nat
 | .mk _ _ _ _ _ e f=>1+max (Ec e) (CC f)
def Ec:List Ty→Nat
 | []=>0
 | t::r=>max t.depth (Ec r)
def CC:List (Int × ByteArray × Int × Ty × List Vl)→Nat
 | []=>0
 | (_,_,_,t,_)::r=>max t.depth (CC r)
end
mutual
def Vl.ok:Vl→Prop
 | .mk _ _ _ t l f=>t.size≤1048576∧Zaw l∧ZF f
def Zaw:List Vl→Prop
 | []=>True
 | v::r=>v.ok∧Zaw r
def ZF:List (ByteArray × Vl)→Prop
 | []=>True
 | (n,v)::r=>n.size≤1048576∧v.ok∧ZF r
end
theorem YC:∀ l,Zaw l↔∀ v∈l,v.ok
 | []=>by simp [Zaw]
 | v::r=>by simp [Zaw,YC r]
theorem Yn:∀ l,ZF l↔∀ p∈l,p.1.size≤1048576∧p.2.ok
 | []=>by simp [ZF]
 | (n,v)::r=>by simp [ZF,Yn r,and_assoc]
def Vl.small (v:Vl):Prop:=v.size≤1048575∧v.depth≤1048576∧v.ok
mutual
def Ty.ok:Ty→Prop
 | .mk _ _ _ _ w e f=>w.length≤1048576∧(∀ x∈w,x.size≤1048576)∧Zb6 e∧V8 f
def Zb6:List Ty→Prop
 | []=>True
 | v::r=>v.ok∧Zb6 r
def V8:List (Int × ByteArray × Int × Ty × List Vl)→Prop
 | []=>True
 | (_,n,_,t,d)::r=>(n.size≤1048576∧t.ok∧d.length≤1048576∧∀ v∈d,v.small)∧V8 r
end
theorem Yu:∀ l,Zb6 l↔∀ v∈l,v.ok
 | []=>by simp [Zb6]
 | v::r=>by simp [Zb6,Yu r]
theorem WM:∀ l,V8 l↔∀ p∈l,p.2.1.size≤1048576∧p.2.2.2.1.ok∧p.2.2.2.2.length≤1048576∧∀ v∈p.2.2.2.2,v.small
 | []=>by simp [V8]
 | (_,n,_,t,d)::r=>by simp [V8,WM r]
theorem Ty.ok_eq (t:Ty):t.ok↔t.words.length≤1048576∧(∀ x∈t.words,x.size≤1048576)∧(∀ v∈t.elem,v.ok)∧∀ p∈t.fields,p.2.1.size≤1048576∧p.2.2.2.1.ok∧p.2.2.2.2.length≤1048576∧∀ v∈p.2.2.2.2,v.small:=by
 cases t;simp only [Ty.ok,Ty.words,Ty.elem,Ty.fields,Yu,WM]
theorem Vl.ok_eq (v:Vl):v.ok↔v.text.size≤1048576∧(∀ x∈v.list,x.ok)∧∀ p∈v.fields,p.1.size≤1048576∧p.2.ok:=by
 cases v;simp only [Vl.ok,Vl.text,Vl.list,Vl.fields,YC,Yn]
theorem NB:∀ (l:List Ty) (d:Nat),Ec l≤d↔∀ v∈l,v.depth≤d
 | [],d=>by simp [Ec]
 | v::r,d=>by simp [Ec,Nat.max_le,NB r d]
theorem LJ:∀ (l:List (Int × ByteArray × Int × Ty × List Vl)) (d:Nat),CC l≤d↔∀ v∈l,v.2.2.2.1.depth≤d
 | [],d=>by simp [CC]
 | (_,_,_,t,_)::r,d=>by simp [CC,Nat.max_le,LJ r d]
theorem Ty.depth_eq (t:Ty):t.depth=1+Max.max (Ec t.elem) (CC t.fields):=by cases t;simp [Ty.depth,Ty.elem,Ty.fields]
theorem Vl.eta (v:Vl):Vl.mk v.kind v.int v.scale v.text v.list v.fields=v:=by cases v;rfl
theorem Ty.eta (v:Ty):Ty.mk v.kind v.min v.max v.scale v.words v.elem v.fields=v:=by cases v;rfl
theorem TO (rec:Vl→Option Vl) (n:Nat) (v:Vl) (hs:v.fields.length≤1000000000000) (hr:∀ p∈v.fields,rec p.2=some p.2) (b:List Vl):∀ (k m i:Nat),i+k=v.fields.length→k<m→G5 rec n v m i b (v.fields.take i)=some (Vl.mk v.kind v.int v.scale v.text b v.fields)
 | k,0,i,_,h=>absurd h (Nat.not_lt_zero _)
 | 0,m+1,i,hi,_=>by
  rw [G5,As,Ac (by omega)]
  simp only [Bool.false_eq_true,if_false,LS]
  rw [List.take_of_length_le (by omega)]
 | k+1,m+1,i,hi,hm=>by
  have a:i<v.fields.length:=by omega
  rw [G5,As,Ad a]
  simp only [if_true,Az a,Ab,hr _ (List.getElem_mem a)]
  rw [Ae (by rw [List.length_take];omega),Ae (Av (by omega))]
  have e:v.fields.take i++[(v.fields[i].1,v.fields[i].2)]=v.fields.take (i+1):=by rw [List.take_succ_eq_append_getElem a]
  rw [e]
  exact TO rec n v hs hr b k m (i+1) (by omega) (by omega)
theorem Ro (rec:Vl→Option Vl) (n:Nat) (v:Vl) (hs:v.fields.length≤1000000000000∧v.list.length≤1000000000000) (hn:v.fields.length<n) (hr:(∀ x∈v.list,rec x=some x)∧∀ p∈v.fields,rec p.2=some p.2):∀ (k m i:Nat),i+k=v.list.length→k<m→Ic rec n v m i (v.list.take i)=some v
 | k,0,i,_,h=>absurd h (Nat.not_lt_zero _)
 | 0,m+1,i,hi,_=>by
  rw [Ic,As,Ac (by omega)]
  simp only [Bool.false_eq_true,if_false,NJ]
  rw [List.take_of_length_le (by omega)]
  have:=TO rec n v hs.1 hr.2 v.list v.fields.length n 0 (by omega) hn
  rw [List.take_zero] at this
  exact this.trans (by rw [Vl.eta])
 | k+1,m+1,i,hi,hm=>by
  have a:i<v.list.length:=by omega
  rw [Ic,As,Ad a]
  simp only [if_true,Az a,Ab,hr.1 _ (List.getElem_mem a)]
  rw [Ae (by rw [List.length_take];omega),Ae (Av (by omega))]
  have e:v.list.take i++[v.list[i]]=v.list.take (i+1):=by rw [List.take_succ_eq_append_getElem a]
  rw [e]
  exact Ro rec n v hs hn hr k m (i+1) (by omega) (by omega)
theorem Qi:∀ (n:Nat) (v:Vl),v.size<n→v.wide=true→Bn n v=some v
 | 0,v,h,_=>absurd h (Nat.not_lt_zero _)
 | n+1,v,h,hs=>by
  have f:=It v
  obtain ⟨g,e,c,d⟩:=v.wide_iff.1 hs
  rw [Bn,Nb]
  have:=Ro (Bn n) n v ⟨by omega,by omega⟩ (by omega) ⟨fun x a=>Qi n x (by have:=v.list_size x a;omega) (c x a),fun p b=>Qi n p.2 (by have:=v.field_size p b;omega) (d p b)⟩ v.list.length n 0 (by omega) (by omega)
  rw [List.take_zero] at this
  exact this
theorem Rt (n:Nat) (v:Vl) (h:v.size<n) (hs:v.size≤1000000000):Bn n v=some v:=Qi n v h (Hk _ v (Nat.le_refl _) (by omega))
abbrev TF:=Int × ByteArray × Int × Ty × List Vl
theorem Zbj (rec:Ty→Option Ty) (n:Nat) (p:TF) (y:Ty) (hs:p.2.2.2.2.length≤1000000000) (hr:∀ v∈p.2.2.2.2,Bn n v=some v):∀ (k m i:Nat),i+k=p.2.2.2.2.length→k<m→DZ rec n p y m (p.2.2.2.2.take i) i=some (p.1,p.2.1,p.2.2.1,y,p.2.2.2.2)
 | k,0,i,_,h=>absurd h (Nat.not_lt_zero _)
 | 0,m+1,i,hi,_=>by
  rw [DZ,As,Ac (by omega)]
  simp only [Bool.false_eq_true,if_false,HS]
  rw [List.take_of_length_le (by omega)]
 | k+1,m+1,i,hi,hm=>by
  have a:i<p.2.2.2.2.length:=by omega
  rw [DZ,As,Ad a]
  simp only [if_true,Az a,Ab,hr _ (List.getElem_mem a)]
  rw [Ae (by rw [List.length_take];omega),Ae (Av (by omega))]
  have e:p.2.2.2.2.take i++[p.2.2.2.2[i]]=p.2.2.2.2.take (i+1):=by rw [List.take_succ_eq_append_getElem a]
  rw [e]
  exact Zbj rec n p y hs hr k m (i+1) (by omega) (by omega)
theorem ZdN (rec:Ty→Option Ty) (n:Nat) (p:TF) (hs:p.2.2.2.2.length≤1000000000) (hn:p.2.2.2.2.length<n) (hr:∀ v∈p.2.2.2.2,Bn n v=some v) (ht:rec p.2.2.2.1=some p.2.2.2.1):D6 rec n p=some p:=by
 rw [D6,ht]
 simp only [Ab]
 rw [Ae (by omega)]
 have:=Zbj rec n p p.2.2.2.1 hs hr p.2.2.2.2.length n 0 (by omega) hn
 rw [List.take_zero] at this
 exact this
theorem UY (rec:Ty→Option Ty) (n:Nat) (t:Ty) (hw:t.words.length≤1000000000) (hs:t.fields.length≤1000000000) (hr:∀ p∈t.fields,D6 rec n p=some p) (e:List Ty):∀ (k m i:Nat),i+k=t.fields.length→k<m→Hf rec n t m e (t.fields.take i) i=some (Ty.mk t.kind t.min t.max t.scale t.words e t.fields)
 | k,0,i,_,h=>absurd h (Nat.not_lt_zero _)
 | 0,m+1,i,hi,_=>by
  rw [Hf,As,Ac (by omega)]
  simp only [Bool.false_eq_true,if_false,LA]
  rw [List.take_of_length_le (by omega),Ae (by omega)]
 | k+1,m+1,i,hi,hm=>by
  have a:i<t.fields.length:=by omega
  rw [Hf,As,Ad a]
  simp only [if_true,Az a,Ab,hr _ (List.getElem_mem a)]
  rw [Ae (by rw [List.length_take];omega),Ae (Av (by omega))]
  have b:t.fields.take i++[t.fields[i]]=t.fields.take (i+1):=by rw [List.take_succ_eq_append_getElem a]
  rw [b]
  exact UY rec n t hw hs hr e k m (i+1) (by omega) (by omega)
theorem V3 (rec:Ty→Option Ty) (n:Nat) (t:Ty) (hw:t.words.length≤1000000000) (hs:t.fields.length≤1000000000∧t.elem.length≤1000000000) (hn:t.fields.length<n) (hr:(∀ x∈t.elem,rec x=some x)∧∀ p∈t.fields,D6 rec n p=some p):∀ (k m i:Nat),i+k=t.elem.length→k<m→Ij rec n t m (t.elem.take i) i=some t
 | k,0,i,_,h=>absurd h (Nat.not_lt_zero _)
 | 0,m+1,i,hi,_=>by
  rw [Ij,As,Ac (by omega)]
  simp only [Bool.false_eq_true,if_false,Nx]
  rw [List.take_of_length_le (by omega),Ae (by omega)]
  have:=UY rec n t hw hs.1 hr.2 t.elem t.fields.length n 0 (by omega) hn
  rw [List.take_zero] at this
  exact this.trans (by rw [Ty.eta])
 | k+1,m+1,i,hi,hm=>by
  have a:i<t.elem.length:=by omega
  rw [Ij,As,Ad a]
  simp only [if_true,Az a,Ab,hr.1 _ (List.getElem_mem a)]
  rw [Ae (by rw [List.length_take];omega),Ae (Av (by omega))]
  have e:t.elem.take i++[t.elem[i]]=t.elem.take (i+1):=by rw [List.take_succ_eq_append_getElem a]
  rw [e]
  exact V3 rec n t hw hs hn hr k m (i+1) (by omega) (by omega)
theorem Ss:∀ (n:Nat) (t:Ty),t.size+1400000<n→t.size≤1000000000→t.ok→Hz n t=some t
 | 0,t,h,_,_=>absurd h (Nat.not_lt_zero _)
 | n+1,t,h,hs,hok=>by
  have i:=t.lens
  obtain ⟨g,j,e,f⟩:=t.ok_eq.1 hok
  rw [Hz,O8,Ae (by omega)]
  have:=V3 (Hz n) n t (by omega) ⟨by omega,by omega⟩ (by omega) ⟨fun x a=>Ss n x (by have:=t.elem_size x a;omega) (by have:=t.elem_size x a;omega) (e x a),fun p c=>by
   obtain ⟨_,d,k,b⟩:=f p c
   have:=t.field_size p c
   exact ZdN _ n p (by omega) (by omega) (fun v hv=>Rt n v (by have:=(b v hv).1;omega) (by have:=(b v hv).1;omega)) (Ss n _ (by omega) (by omega) d)⟩ t.elem.length n 0 (by omega) (by omega)
  rw [List.take_zero] at this
  exact this
def LN (n:Nat)  (b:List Ty):Option ((List Ty)) :=
 some (b)
def PW (n:Nat)  : Option ((List Ty)) :=
 some ([])
def GY (n:Nat) (q:Ty):Nat→(List Ty)→Int→Option ((List Ty))
 | 0,_,_=>none
 | m+1,g,b =>
  if decide (b<(q.fields.length:Int)) then
   (B7 q.fields b).bind fun h =>
   if (g.length+1)*104≤140737488355328∧g.length+1≤4611686018427387904 then
    if BQ (b+1) then
     (GY n q m) (g++([h.2.2.2.1])) (b+1)
    else none
   else none
  else
   LN n g
def Iu (n:Nat) (g:Ty) (b:Bool):Option ((List Ty)) :=
 if b then
  if 0≤(g.fields.length:Int)∧(g.fields.length:Int)*104≤140737488355328∧(g.fields.length:Int)≤4611686018427387904 then
   GY n g n ([]) 0
  else none
 else
  PW n 
def MS (n:Nat) (b:Ty):Option ((List Ty)) :=
 if decide (b.kind=8) then
  some (b.elem)
 else
  if decide (b.kind=9) then
   Iu n b true
  else
   Iu n b (decide (b.kind=10))
theorem ZaD (w0:World) (n:Nat) (B:List (List AV)) (Rw:List RowA) (L:List LoopA) (a0:Ty) (r:(List Ty)) (h:MS n a0=some r) :
  ACalls Tryz.prog w0 51 [.agg (a0.cs)] ⟨B,Rw,L⟩ fun x st=>x = .list (r.map HF) .none∧st=⟨B,Rw,L⟩:=by
 rw [MS] at h
 refine hd [.tmp 2] Tryz.func51 Tryz.ntmps51 fun M0 W0 G p q b V l hs=>?_
 simp only [Au]
 refine rg [1] hs ?_
 refine Aw (fun e st=>Ck e st B Rw L [] [a0.cs] [] (PW n  = some r)) ?_ ?_
 ·intro K4 N
  refine rg [1,7] hs ?_
  apply Ak
  refine rg [1,7,8] hs ?_
  refine AN h hs (fun hs h=>?_) (fun hs h=>?_)
  ·refine rg [2] hs ?_
   exact rt h hs b l
  refine Aw (fun e st=>∃ (k:Bool),Ck e st B Rw L [(1,true,.box B.length 0),(12,true,.val (.bool k))] [a0.cs] [] (Iu n a0 k=some r)) ?_ ?_
  ·intro K11 u
   refine rg [1,7,12] hs ?_
   refine AN h hs (fun hs h=>?_) (fun hs h=>?_)
   ·refine sk [1,12] hs u ?_
    exact ⟨true,([]),Rw,ef hs,ef hs,l,h⟩
   refine rl [1,12] hs u ?_
   exact ⟨(decide (a0.kind=10)),([]),Rw,ef hs,ef hs,l,h⟩
  ·clear h;rintro e st ⟨k,Xk10,Rk10,rfl,rfl,l,h⟩
   rw [Iu] at h
   refine td G p q b l ?_
   refine AN h hs (fun hs h=>?_) (fun hs h=>?_)
   ·obtain ⟨U,h⟩:=Aj h
    have l:=l.make 7 0
    refine rg [1,3] hs ?_
    refine Aw (fun e st=>∃ (i:List Ty) (j:Ev.Own),Ck e st B Rw L [(3,true,.list (i.map HF) j)] [a0.cs] [(7,i.length,j)] (LN n i=some r)) ?_ ?_
    ·intro K20 F
     refine rg [3,20,21,22] hs ?_
     apply Ak
     refine AC (fun m e st=>∃ (a:List Ty) (d:Int) (c:Ev.Own),Ck e st B Rw L [(3,true,.list (a.map HF) c),(20,true,.list (a0.fields.map Cm) .none),(21,true,.val (.int .i64 (a0.fields.length:Int))),(22,true,.val (.int .i64 d))] [a0.cs] [(7,a.length,c)] (GY n a0 m a d=some r)) n ⟨([]),0,((.row Rk10.length)),([]),((Rk10++[.grow 0 7])),ef hs,ef hs,Owns.of_eq (l) EA,h⟩ ?_
     rintro ml22 e st ⟨a,d,c,Xl22,Rl22,rfl,rfl,l,h⟩ Ul22 Vl22
     cases ml22 with
     | zero=>cases h
     | succ ml22 =>
     rw [GY] at h
     have K:=l.unders
     simp only [List.mem_cons,List.not_mem_nil,or_false,forall_eq_or_imp,forall_eq] at K
     refine td G p q b l ?_
     refine rg [3,20,21,22,23] hs ?_
     apply Ah;intro K24 z
     refine AN h hs (fun hs h=>?_) (fun hs h=>?_)
     rotate_left
     ·refine sx [3] hs F ?_
      exact ⟨a,c,([]),Rl22,ef hs,ef hs,Owns.of_eq (l) EA,h⟩
     refine sk [3,20,21,22] hs z ?_
     clear z
     apply Ah;intro K26 w
     apply Ak
     obtain ⟨o,E,h⟩:=bind_some h
     obtain ⟨H,J,C⟩:=AA E
     have D:=AB (f:=Cm) C
     have hs:=Aa D hs
     refine rg [3,5,20,21,22] hs ?_
     obtain ⟨v,h⟩:=Aj h
     obtain ⟨O,t,l,g⟩:=l.append (P:=Tryz.prog) Zdc (by rw [Y4];rfl) (by decide) 1 v.1 v.2
     replace g:=fun (ys:List AV) B L o2=>g (a.map HF) ys B L o2 EA
     replace g:=fun (y:AV) B L o2=>g [y] B L o2 EA ev
     try simp only [List.mem_singleton,List.mem_cons,List.not_mem_nil,or_false,forall_eq_or_imp,forall_eq,List.map_append,List.map_cons,List.map_nil,FP,FN,Fz,FB,FK,Fa,Ea,Eb,FA,Db,Da,Ed,Ek,Ef] at g
     have hs:=Aa g hs
     refine rl [3,20,21,22] hs w ?_
     clear w
     obtain ⟨Q,h⟩:=Aj h
     refine rl [3,20,21,22] hs (fun e s=>Vl22 ml22 e s (Nat.lt_succ_self _)) ?_
     exact ⟨(a++([o.2.2.2.1])),(d+1),O,([.val (.int .i64 o.1)::(.val (.string o.2.1)::(.val (.int .i64 o.2.2.1)::((o.2.2.2.1.cs)++([.list (o.2.2.2.2.map Bo) .none]))))]),t,ef hs,ef hs,Owns.of_eq (l) EA,h⟩
    ·clear h;rintro e st ⟨i,j,Xk19,Rk19,rfl,rfl,l,h⟩
     rw [LN] at h
     have K:=l.unders
     simp only [List.mem_cons,List.not_mem_nil,or_false,forall_eq_or_imp,forall_eq] at K
     refine td G p q b l ?_
     refine rg [2] hs ?_
     exact rt h hs b l
   refine sk [] hs N ?_
   exact ⟨([]),Rk10,ef hs,ef hs,l,h⟩
 ·clear h;rintro e st ⟨Xk3,Rk3,rfl,rfl,l,h⟩
  rw [PW] at h
  refine td G p q b l ?_
  refine rg [2] hs ?_
  exact rt h hs b l
def RX (t:Ty):List Ty:=if t.kind=8 then t.elem else if t.kind=9∨t.kind=10 then t.fields.map fun p=>p.2.2.2.1 else []
theorem ZdI (n:Nat) (t:Ty) (hs:t.fields.length≤1000000000):∀ (k m i:Nat) (x:List Ty),i+k=t.fields.length→k<m→x.length=i→GY n t m x i=some (x++(t.fields.drop i).map fun p=>p.2.2.2.1)
 | k,0,i,_,_,h,_=>absurd h (Nat.not_lt_zero _)
 | 0,m+1,i,x,hi,_,_=>by
  rw [GY,As,Ac (by omega)]
  simp only [Bool.false_eq_true,if_false,LN]
  rw [List.drop_eq_nil_of_le (by omega),List.map_nil,List.append_nil]
 | k+1,m+1,i,x,hi,hm,hx=>by
  have a:i<t.fields.length:=by omega
  rw [GY,As,Ad a]
  simp only [if_true,Az a,Ab]
  rw [Ae (by omega),Ae (Av (by omega))]
  have ih:=ZdI n t hs k m (i+1) (x++[t.fields[i].2.2.2.1]) (by omega) (by omega) (by simp [hx])
  rw [List.drop_eq_getElem_cons a,List.map_cons]
  rw [List.append_assoc] at ih
  exact ih
theorem We (n:Nat) (t:Ty) (hn:t.fields.length<n) (hs:t.fields.length≤1000000000):MS n t=some (RX t):=by
 have a:Iu n t true=some (t.fields.map fun p=>p.2.2.2.1):=by
  rw [Iu,Ae rfl,Ae (by omega)]
  have:=ZdI n t hs t.fields.length n 0 [] (by omega) hn rfl
  rw [List.drop_zero,List.nil_append] at this
  exact this
 rw [MS,RX]
 by_cases h1:t.kind=8
 ·rw [Ae (Ad h1),Ae h1]
 rw [Af (by rw [decide_eq_true_eq];exact h1),Af h1]
 by_cases h2:t.kind=9
 ·rw [Ae (Ad h2),a,Ae (.inl h2)]
 rw [Af (by rw [decide_eq_true_eq];exact h2)]
 by_cases h3:t.kind=10
 ·rw [Ad h3,a,Ae (.inr h3)]
 ·rw [Ac h3,Af (by omega)];rfl
theorem ZdH {a b:ByteArray} (h:a.data.toList=b.data.toList):a=b:=by
 cases a;cases b;simp at h;rw [h]
theorem ZaO:∀ a b:List UInt8,Lib.compareBytes a b=0→a=b
 | [],[],_=>rfl
 | [],_::_,h=>absurd (show (-1:Int)=0 from h) (by decide)
 | _::_,[],h=>absurd (show (1:Int)=0 from h) (by decide)
 | x::a,y::b,h=>by
  simp only [Lib.compareBytes] at h
  by_cases h1:x<y
  ·simp [h1] at h
  ·by_cases h2:y<x
   ·simp [h1,h2] at h
   ·simp only [h1,h2,if_false] at h
    rw [ZaO a b h]
    have:x=y:=by
     rw [UInt8.lt_iff_toNat_lt] at h1 h2
     exact UInt8.toNat_inj.1 (by omega)
    rw [this]
theorem KD (a b:ByteArray):ER a b=0↔a=b:=by
 unfold ER
 constructor
 ·intro h;exact ZdH (ZaO _ _ h)
 ·rintro rfl;exact Tv _
theorem Ei (x y:ByteArray):Cb x y=true↔x=y:=by
 unfold Cb
 rw [beq_iff_eq]
 exact ⟨ZdH,fun h=>by rw [h]⟩
theorem ME (x:ByteArray):Cb x x=true:=(Ei x x).2 rfl
theorem SX {α:Type} (l m:List α) (i:Nat) (h1:i<l.length) (h2:i<m.length):l.drop i=m.drop i↔l[i]=m[i]∧l.drop (i+1)=m.drop (i+1):=by
 rw [List.drop_eq_getElem_cons h1,List.drop_eq_getElem_cons h2,List.cons.injEq]
theorem U2 {n:Nat} (h:n≤1048576):n≤maxLen:=by unfold maxLen;omega
theorem Vl.ext' {a b:Vl} (h1:a.kind=b.kind) (h2:a.int=b.int) (h3:a.scale=b.scale) (h4:a.text=b.text) (h5:a.list=b.list) (h6:a.fields=b.fields):a=b:=by
 rw [←a.eta,←b.eta,h1,h2,h3,h4,h5,h6]
theorem TF.ext' {p q:TF} (h1:p.1=q.1) (h2:p.2.1=q.2.1) (h3:p.2.2.1=q.2.2.1) (h4:p.2.2.2.1=q.2.2.2.1) (h5:p.2.2.2.2=q.2.2.2.2):p=q:=by
 obtain ⟨a,b,c,d,e⟩:=p
 obtain ⟨i,g,f,h,j⟩:=q
 simp only at h1 h2 h3 h4 h5
 rw [h1,h2,h3,h4,h5]
theorem Ty.ext' {a b:Ty} (h1:a.kind=b.kind) (h2:a.min=b.min) (h3:a.max=b.max) (h4:a.scale=b.scale) (h5:a.words=b.words) (h6:a.elem=b.elem) (h7:a.fields=b.fields):a=b:=by
 rw [←a.eta,←b.eta,h1,h2,h3,h4,h5,h6,h7]
end Go.Proofs.YtgpmlelfkjfbiaaGreatDoor
namespace Go.Ev
open Go
structure VStk (Rw rows:List RowA) (sz:Nat) (xs:List AV) (id ver:Nat):Prop where
 pre:Rw <+: rows
 calm:∀ r∈rows.drop Rw.length,∀ y∈r.cells,∀ a b c,Under a b c y
 own:Rw.length≤id
 len:∀ y∈xs,y.cells.length=sz
 at_:∃ rest,rows[id]? = some (.vec ver sz (xs.flatMap AV.cells++rest))
theorem VStk.under {Rw rows:List RowA} {sz:Nat} {xs:List AV} {id ver:Nat} (h:VStk Rw rows sz xs id ver):id<rows.length:=by
 obtain ⟨a,h⟩:=h.at_
 exact (Ag.1 h).1
theorem VStk.start (Rw:List RowA) {sz:Nat} {y:AV} {cs:List AV} (hc:cs=y.cells) (hy:y.cells.length=sz) (hu:∀ c∈y.cells,∀ a b d,Under a b d c):VStk Rw (Rw++[.vec 0 sz cs]) sz [y] Rw.length 0:=by
 subst hc
 refine ⟨List.prefix_append _ _,fun r f x e a b c=>?_,Nat.le_refl _,fun x e=>by rw [List.mem_singleton.1 e];exact hy,⟨[],by simp⟩⟩
 rw [List.drop_left] at f
 rw [List.mem_singleton.1 f] at e
 exact hu x e a b c
theorem VStk.take {Rw rows:List RowA} {sz:Nat} {xs:List AV} {id ver:Nat} (h:VStk Rw rows sz xs id ver) (k:Nat):VStk Rw rows sz (xs.take k) id ver:=by
 obtain ⟨a,c⟩:=h.at_
 refine ⟨h.pre,h.calm,h.own,fun y b=>h.len y (List.mem_of_mem_take b),⟨(xs.drop k).flatMap AV.cells++a,?_⟩⟩
 rw [c,←List.append_assoc,←List.flatMap_append,List.take_append_drop]
theorem VStk.of_eq {Rw rows:List RowA} {sz:Nat} {xs ys:List AV} {id ver:Nat} (h:VStk Rw rows sz xs id ver) (he:xs=ys):VStk Rw rows sz ys id ver:=he▸h
theorem VStk.append {P:Program} {t el:TypeId} {sz by8:Nat} {ag:Bool} {Rw rows:List RowA} {xs:List AV} {y:AV} {id ver:Nat} (h:VStk Rw rows sz xs id ver) (he:Kq P t=some (el,sz,ag,by8)) (hz:(C5 P el).isSome=true) (hs:0<sz)
  (hb:(xs.length+1)*by8≤140737488355328) (hb2:xs.length+1≤4611686018427387904) (hy:y.cells.length=sz∧A5 y=true) (hp:y.pub=y) (hu:∀ c∈y.cells,∀ a b d,Under a b d c) :
  ∃ rows',VStk Rw rows' sz (xs++[y]) id (ver+1)∧∀ (B:List (List AV)) (L:List LoopA) (o2:Own),BA P ⟨B,rows,L⟩ t (.vec id ver 0 xs.length) (.list [y] o2)=(True,.vec id (ver+1) 0 (xs.length+1),⟨B,rows',L⟩):=by
 have p:=h.pre.length_le
 have l:=h.own
 obtain ⟨e,i⟩:=h.at_
 have k:=(Ag.1 i).1
 have j:(xs.flatMap AV.cells).length=xs.length*sz:=Pm h.len
 have n:CP P el sz by8 xs.length [y]=True:=by
  simp only [CP,hs,hz,List.length_singleton,hb,hb2,true_and,List.mem_singleton,forall_eq,hy,and_self]
 refine ⟨rows.set id (.vec (ver+1) sz (xs.flatMap AV.cells++y.cells)),⟨Kz h.pre l _,fun r g z f a b c=>?_,l,fun z hz=>?_,⟨[],by simp [k,List.flatMap_append]⟩⟩,fun B L o2=>?_⟩
 ·rw [List.drop_set,Af (by omega)] at g
  rcases List.mem_or_eq_of_mem_set g with g | rfl
  ·exact h.calm r g z f a b c
  ·rcases List.mem_append.1 f with q | q
   ·exact h.calm (.vec ver sz (xs.flatMap AV.cells++e)) (by
     rw [List.mem_iff_getElem?]
     exact ⟨id-Rw.length,by rw [List.getElem?_drop,Nat.add_sub_cancel' l];exact i⟩) z (List.mem_append_left _ q) a b c
   ·exact hu z q a b c
 ·rcases List.mem_append.1 hz with q | q
  ·exact h.len z q
  ·rw [List.mem_singleton.1 q];exact hy.1
 ·simp only [BA,he,AY,CE,List.length_singleton,List.flatMap_cons,List.flatMap_nil,List.append_nil,hp,EW,i,if_true]
  rw [n]
  have m:(xs.flatMap AV.cells++e).take (xs.length*sz)=xs.flatMap AV.cells:=by rw [←j,List.take_left]
  have o:xs.length*sz≤(xs.flatMap AV.cells++e).length:=by rw [List.length_append];omega
  simp only [true_and,m,eq_true o,and_self]
end Go.Ev
namespace Go.Proofs.YtgpmlelfkjfbiaaGreatDoor
open Go Go.RowKit Go.Ev
def Dh (b:Int) (g:Int) (h:Int):Bool :=
 (decide (b<g))||(decide (h<b))
def Dv (b:Vl):Bool :=
 (((((!((((decide (1≤b.kind))&&(decide (b.kind≤3)))||(decide (b.kind=6)))||(decide (b.kind=7))))&&(!(decide (b.int=0))))||((!(decide (b.kind=3)))&&(!(decide (b.scale=0)))))||((!(((decide (b.kind=4))||(decide (b.kind=5)))||(decide (b.kind=10))))&&(!(Cb b.text ((⟨#[]⟩:ByteArray))))))||((!((decide (b.kind=8))||(decide (b.kind=10))))&&(decide (0<(b.list.length:Int)))))||((!(decide (b.kind=9)))&&(decide (0<(b.fields.length:Int))))
@[go_sem] theorem vl_a6 (v:Vl) (x d:AV):(v.cs++[x]).getD 6 d=x:=by cases v;rfl
@[go_sem] theorem Zit (v:Vl) (a b c d e f g:AV):DG [a,b,c,d,e,f,g] 0 v.cs=v.cs++[g]:=by
 cases v;rfl
@[go_sem] theorem ZhG (v:Vl) (g x:AV):DG (v.cs++[g]) 6 [x]=v.cs++[x]:=by
 cases v;rfl
def Ce (b:Vl):Bool :=
 (((((decide (b.kind=0))&&(decide (b.int=0)))&&(decide (b.scale=0)))&&(Cb b.text ((⟨#[]⟩:ByteArray))))&&(decide ((b.list.length:Int)=0)))&&(decide ((b.fields.length:Int)=0))
theorem Y0 (w0:World) (B:List (List AV)) (Rw:List RowA) (L:List LoopA) (a0:Vl) (r:Bool) (h:Ce a0=r) :
  ACalls Tryz.prog w0 62 [.agg (a0.cs)] ⟨B,Rw,L⟩ fun x st=>x = .val (.bool r)∧st=⟨B,Rw,L⟩:=by
 rw [Ce] at h
 refine hd [.tmp 2] Tryz.func62 Tryz.ntmps62 fun M0 W0 f d b a e c hs=>?_
 simp only [Au]
 refine rg [1] hs ?_
 refine rg [2] hs ?_
 exact rT h hs a c
theorem NM (w0:World) (B:List (List AV)) (Rw:List RowA) (L:List LoopA) (a0:Vl) :
  ACalls Tryz.prog w0 62 [.agg (a0.cs)] ⟨B,Rw,L⟩ fun x st=>x = .val (.bool (Ce a0))∧st=⟨B,Rw,L⟩:=Y0 w0 B Rw L a0 _ rfl
def Cd (b:Int) (g:Int) (h:Int):Int :=
 if (decide (b<g))||(decide (h<b)) then
  2
 else
  0
theorem X5 (w0:World) (B:List (List AV)) (Rw:List RowA) (L:List LoopA) (a0:Int) (a1:Int) (a2:Int) (r:Int) (h:Cd a0 a1 a2=r) :
  ACalls Tryz.prog w0 109 [.val (.int .i64 a0),.val (.int .i64 a1),.val (.int .i64 a2)] ⟨B,Rw,L⟩ fun x st=>x = .val (.int .i64 r)∧st=⟨B,Rw,L⟩:=by
 rw [Cd] at h
 refine hd [.tmp 6] Tryz.func109 Tryz.ntmps109 fun M0 W0 g e d a f c hs=>?_
 simp only [Au]
 refine rg [0,1,2] hs ?_
 apply Ah;intro K2 b
 refine rg [14] hs ?_
 refine AN h hs (fun hs h=>?_) (fun hs h=>?_)
 ·refine rg [6] hs ?_
  exact rT h hs a c
 refine sk [] hs b ?_
 clear b
 refine rg [6] hs ?_
 exact rT h hs a c
theorem GF (w0:World) (B:List (List AV)) (Rw:List RowA) (L:List LoopA) (a0:Int) (a1:Int) (a2:Int) :
  ACalls Tryz.prog w0 109 [.val (.int .i64 a0),.val (.int .i64 a1),.val (.int .i64 a2)] ⟨B,Rw,L⟩ fun x st=>x = .val (.int .i64 (Cd a0 a1 a2))∧st=⟨B,Rw,L⟩:=X5 w0 B Rw L a0 a1 a2 _ rfl
def FT (b:Vl):Int :=
 Cd b.int 0 1
theorem XV (w0:World) (B:List (List AV)) (Rw:List RowA) (L:List LoopA) (a0:Vl) (r:Int) (h:FT a0=r) :
  ACalls Tryz.prog w0 108 [.agg (a0.cs)] ⟨B,Rw,L⟩ fun x st=>x = .val (.int .i64 r)∧st=⟨B,Rw,L⟩:=by
 rw [FT] at h
 refine hd [.tmp 2] Tryz.func108 Tryz.ntmps108 fun M0 W0 g e c a f d hs=>?_
 simp only [Au]
 refine rg [1] hs ?_
 refine rc 2 [2] hs ?_;intro K2 b
 refine Ai _ (GF w0 _ _ _ a0.int 0 1) (hv hs) ?_
 refine ne hs b ?_
 clear b
 exact rT h hs a d
theorem VM (w0:World) (B:List (List AV)) (Rw:List RowA) (L:List LoopA) (a0:Vl) :
  ACalls Tryz.prog w0 108 [.agg (a0.cs)] ⟨B,Rw,L⟩ fun x st=>x = .val (.int .i64 (FT a0))∧st=⟨B,Rw,L⟩:=XV w0 B Rw L a0 _ rfl
def Dw (g:Int) (b:Int) (h:Int):Int :=
 if decide (b<g) then
  h
 else
  0
theorem Zcr (w0:World) (B:List (List AV)) (Rw:List RowA) (L:List LoopA) (a0:Int) (a1:Int) (a2:Int) (r:Int) (h:Dw a0 a1 a2=r) :
  ACalls Tryz.prog w0 114 [.val (.int .i64 a0),.val (.int .i64 a1),.val (.int .i64 a2)] ⟨B,Rw,L⟩ fun x st=>x = .val (.int .i64 r)∧st=⟨B,Rw,L⟩:=by
 rw [Dw] at h
 refine hd [.tmp 6] Tryz.func114 Tryz.ntmps114 fun M0 W0 g e d a f c hs=>?_
 simp only [Au]
 refine rg [0,1,2] hs ?_
 apply Ah;intro K2 b
 refine rg [2,9] hs ?_
 refine AN h hs (fun hs h=>?_) (fun hs h=>?_)
 ·refine rg [6] hs ?_
  exact rT h hs a c
 refine sk [] hs b ?_
 clear b
 refine rg [6] hs ?_
 exact rT h hs a c
theorem KF (w0:World) (B:List (List AV)) (Rw:List RowA) (L:List LoopA) (a0:Int) (a1:Int) (a2:Int) :
  ACalls Tryz.prog w0 114 [.val (.int .i64 a0),.val (.int .i64 a1),.val (.int .i64 a2)] ⟨B,Rw,L⟩ fun x st=>x = .val (.int .i64 (Dw a0 a1 a2))∧st=⟨B,Rw,L⟩:=Zcr w0 B Rw L a0 a1 a2 _ rfl
def IR (b:Vl):Option Int :=
 if b.text.size≤maxLen then
  if !(E5 b.text) then
   some (12)
  else
   if decide ((b.list.length:Int)=0) then
    some (4)
   else
    some (Dw (b.list.length:Int) 1 3)
 else none
theorem V0 (w0:World) (B:List (List AV)) (Rw:List RowA) (L:List LoopA) (a0:Vl) (r:Int) (h:IR a0=some r) :
  ACalls Tryz.prog w0 121 [.agg (a0.cs)] ⟨B,Rw,L⟩ fun x st=>x = .val (.int .i64 r)∧st=⟨B,Rw,L⟩:=by
 rw [IR] at h
 refine hd [.tmp 2] Tryz.func121 Tryz.ntmps121 fun M0 W0 k i g a j f hs=>?_
 simp only [Au]
 refine rg [1] hs ?_
 apply Ah;intro K2 d
 apply Ak
 obtain ⟨e,h⟩:=Aj h
 refine rc 2 [1,3] hs ?_;intro K3 c
 refine Ai _ (RE w0 _ _ _ a0.text e) (hv hs) ?_
 refine ne hs c ?_
 clear c
 refine AN h hs (fun hs h=>?_) (fun hs h=>?_)
 ·refine rg [2] hs ?_
  exact rt h hs a f
 refine rg [1,8] hs ?_
 refine AN h hs (fun hs h=>?_) (fun hs h=>?_)
 ·refine rg [2] hs ?_
  exact rt h hs a f
 refine sk [1] hs d ?_
 clear d
 refine rc 2 [2] hs ?_;intro K10 b
 refine Ai _ (KF w0 _ _ _ (a0.list.length:Int) 1 3) (hv hs) ?_
 refine ne hs b ?_
 clear b
 exact rt h hs a f
def F3 (b:Vl):Int :=
 Cd b.int ((-999999999999999)) 999999999999999
theorem W9 (w0:World) (B:List (List AV)) (Rw:List RowA) (L:List LoopA) (a0:Vl) (r:Int) (h:F3 a0=r) :
  ACalls Tryz.prog w0 110 [.agg (a0.cs)] ⟨B,Rw,L⟩ fun x st=>x = .val (.int .i64 r)∧st=⟨B,Rw,L⟩:=by
 rw [F3] at h
 refine hd [.tmp 2] Tryz.func110 Tryz.ntmps110 fun M0 W0 g e c a f d hs=>?_
 simp only [Au]
 refine rg [1] hs ?_
 refine rc 2 [2] hs ?_;intro K2 b
 refine Ai _ (GF w0 _ _ _ a0.int ((-999999999999999)) 999999999999999) (hv hs) ?_
 refine ne hs b ?_
 clear b
 exact rT h hs a d
theorem VJ (w0:World) (B:List (List AV)) (Rw:List RowA) (L:List LoopA) (a0:Vl) :
  ACalls Tryz.prog w0 110 [.agg (a0.cs)] ⟨B,Rw,L⟩ fun x st=>x = .val (.int .i64 (F3 a0))∧st=⟨B,Rw,L⟩:=W9 w0 B Rw L a0 _ rfl
def Nq (n:Nat)  : Option Int :=
 some (0)
def Ii (n:Nat) (h:List Int):Nat→Int→Option Int
 | 0,_=>none
 | m+1,b =>
  if decide (b<(h.length:Int)) then
   (B7 h b).bind fun g =>
   if !(decide (g=0)) then
    some (g)
   else
    if BQ (b+1) then
     (Ii n h m) (b+1)
    else none
  else
   Nq n 
def MQ (n:Nat) (b:List Int):Option Int :=
 Ii n b n 0
theorem Zaa (w0:World) (n:Nat) (B:List (List AV)) (Rw:List RowA) (L:List LoopA) (a0:List Int) (r:Int) (h:MQ n a0=some r) :
  ACalls Tryz.prog w0 112 [.list (a0.map Yg) .none] ⟨B,Rw,L⟩ fun x st=>x = .val (.int .i64 r)∧st=⟨B,Rw,L⟩:=by
 rw [MQ] at h
 refine hd [.tmp 2] Tryz.func112 Tryz.ntmps112 fun M0 W0 u j o a y c hs=>?_
 simp only [Au]
 refine rg [0] hs ?_
 refine Aw (fun e st=>Ck e st B Rw L [] [] [] (Nq n  = some r)) ?_ ?_
 ·intro K4 q
  refine rg [5,6,7] hs ?_
  apply Ak
  refine AC (fun m e st=>∃ (b:Int),Ck e st B Rw L [(5,true,.list (a0.map Yg) .none),(6,true,.val (.int .i64 (a0.length:Int))),(7,true,.val (.int .i64 b))] [] [] (Ii n a0 m b=some r)) n ⟨0,([]),Rw,ef hs,ef hs,c,h⟩ ?_
  rintro ml6 e st ⟨b,Xl6,Rl6,rfl,rfl,c,h⟩ Ul6 Vl6
  cases ml6 with
  | zero=>cases h
  | succ ml6 =>
  rw [Ii] at h
  refine td u j o a c ?_
  refine rg [5,6,7,8] hs ?_
  apply Ah;intro K8 k
  refine AN h hs (fun hs h=>?_) (fun hs h=>?_)
  rotate_left
  ·refine sx [] hs q ?_
   exact ⟨([]),Rl6,ef hs,ef hs,c,h⟩
  refine sk [5,6,7] hs k ?_
  clear k
  apply Ah;intro K10 d
  apply Ak
  obtain ⟨w,l,h⟩:=bind_some h
  obtain ⟨t,p,g⟩:=AA l
  have i:=AB (f:=Yg) g
  have hs:=Aa i hs
  refine rg [4,5,6,7] hs ?_
  refine rg [4,5,6,7,12] hs ?_
  refine AN h hs (fun hs h=>?_) (fun hs h=>?_)
  ·refine rg [2] hs ?_
   exact rt h hs a c
  refine sk [5,6,7] hs d ?_
  clear d
  obtain ⟨v,h⟩:=Aj h
  refine rl [5,6,7] hs (fun e s=>Vl6 ml6 e s (Nat.lt_succ_self _)) ?_
  exact ⟨(b+1),([]),Rl6,ef hs,ef hs,c,h⟩
 ·clear h;rintro e st ⟨Xk3,Rk3,rfl,rfl,c,h⟩
  rw [Nq] at h
  refine td u j o a c ?_
  refine rg [2] hs ?_
  exact rt h hs a c
def JK (n:Nat) (b:Vl):Option Int :=
 (MQ n ([Cd b.int ((-999999999999999)) 999999999999999,Cd b.scale 0 12])).bind fun g =>
 some (g)
theorem Xa (w0:World) (n:Nat) (B:List (List AV)) (Rw:List RowA) (L:List LoopA) (a0:Vl) (r:Int) (h:JK n a0=some r) :
  ACalls Tryz.prog w0 111 [.agg (a0.cs)] ⟨B,Rw,L⟩ fun x st=>x = .val (.int .i64 r)∧st=⟨B,Rw,L⟩:=by
 rw [JK] at h
 refine hd [.tmp 2] Tryz.func111 Tryz.ntmps111 fun M0 W0 i f d a g e hs=>?_
 simp only [Au]
 refine rg [1] hs ?_
 obtain ⟨j,c,h⟩:=bind_some h
 apply Ah;intro K2 b
 refine dk 9 4 1 [2] hs HH ?_
 refine Ai _ (GF w0 _ _ _ a0.int ((-999999999999999)) 999999999999999) (hv hs) ?_
 refine nc hs ?_
 refine Ai _ (GF w0 _ _ _ a0.scale 0 12) (hv hs) ?_
 refine nc hs ?_
 refine Ai _ (Zaa w0 n _ _ _ ([Cd a0.int ((-999999999999999)) 999999999999999,Cd a0.scale 0 12]) _ c) (hv hs) ?_
 refine dn hs b ?_
 clear b
 exact rt h hs a e
def HA  (b:Int):Option Int :=
 some (b)
def Jv (b:Vl):Option Int :=
 if decide ((Dw (b.text.size:Int) 1024 5)=0) then
  if b.text.size≤maxLen then
   if !(Lib.validD b.text.data.toList) then
    HA  16
   else
    HA  (Dw (b.text.size:Int) 1024 5)
  else none
 else
  HA  (Dw (b.text.size:Int) 1024 5)
theorem XS (w0:World) (hT:Lib.Utf8Tabs 0 1 w0) (B:List (List AV)) (Rw:List RowA) (L:List LoopA) (a0:Vl) (r:Int) (h:Jv a0=some r) :
  ACalls Tryz.prog w0 113 [.agg (a0.cs)] ⟨B,Rw,L⟩ fun x st=>x = .val (.int .i64 r)∧st=⟨B,Rw,L⟩:=by
 rw [Jv] at h
 refine hd [.tmp 2] Tryz.func113 Tryz.ntmps113 fun M0 W0 l k j b m f hs=>?_
 simp only [Au]
 refine rg [1] hs ?_
 refine rc 2 [1,3] hs ?_;intro K2 g
 refine Ai _ (KF w0 _ _ _ (a0.text.size:Int) 1024 5) (hv hs) ?_
 refine ne hs g ?_
 clear g
 refine Aw (fun e st=>∃ (a:Int),Ck e st B Rw L [(3,true,.val (.int .i64 a))] [a0.cs] [] (HA  a=some r)) ?_ ?_
 ·intro K5 d
  apply Ah;intro K6 c
  rcases Bool.eq_false_or_eq_true (decide ((Dw (a0.text.size:Int) 1024 5)=0)) with hf7 | hf7
  ·replace h:=Ba h hf7
   obtain ⟨i,h⟩:=Aj h
   have hs:=Aa hf7 hs
   refine rk 2 [3,15] hs ?_
   refine Ai _ (Uh w0 _ _ _ hT a0.text i) (hv hs) ?_
   refine ne hs c ?_
   clear c
   refine AN h hs (fun hs h=>?_) (fun hs h=>?_)
   ·refine rl [3] hs d ?_
    exact ⟨16,([]),Rw,ef hs,ef hs,f,h⟩
   refine sk [3] hs d ?_
   exact ⟨(Dw (a0.text.size:Int) 1024 5),([]),Rw,ef hs,ef hs,f,h⟩
  ·replace h:=A9 h hf7
   have hs:=Aa hf7 hs
   refine rk 2 [3,15] hs ?_
   refine AD ?_
   refine ne hs c ?_
   clear c
   refine A4 false ev (ef hs) (fun hb10=>by cases hb10) (fun hb10=>?_)
   refine sk [3] hs d ?_
   exact ⟨(Dw (a0.text.size:Int) 1024 5),([]),Rw,ef hs,ef hs,f,h⟩
 ·clear h;rintro e st ⟨a,Xk4,Rk4,rfl,rfl,f,h⟩
  rw [HA] at h
  refine td l k j b f ?_
  refine rg [2] hs ?_
  exact rt h hs b f
def F6 (b:Vl):Int :=
 Dw (b.text.size:Int) 1024 5
theorem XP (w0:World) (B:List (List AV)) (Rw:List RowA) (L:List LoopA) (a0:Vl) (r:Int) (h:F6 a0=r) :
  ACalls Tryz.prog w0 116 [.agg (a0.cs)] ⟨B,Rw,L⟩ fun x st=>x = .val (.int .i64 r)∧st=⟨B,Rw,L⟩:=by
 rw [F6] at h
 refine hd [.tmp 2] Tryz.func116 Tryz.ntmps116 fun M0 W0 g e c a f d hs=>?_
 simp only [Au]
 refine rg [1] hs ?_
 refine rc 2 [2] hs ?_;intro K2 b
 refine Ai _ (KF w0 _ _ _ (a0.text.size:Int) 1024 5) (hv hs) ?_
 refine ne hs b ?_
 clear b
 exact rT h hs a d
theorem VZ (w0:World) (B:List (List AV)) (Rw:List RowA) (L:List LoopA) (a0:Vl) :
  ACalls Tryz.prog w0 116 [.agg (a0.cs)] ⟨B,Rw,L⟩ fun x st=>x = .val (.int .i64 (F6 a0))∧st=⟨B,Rw,L⟩:=XP w0 B Rw L a0 _ rfl
def FZ (b:Vl):Int :=
 Cd b.int ((-719162)) 2932896
theorem X7 (w0:World) (B:List (List AV)) (Rw:List RowA) (L:List LoopA) (a0:Vl) (r:Int) (h:FZ a0=r) :
  ACalls Tryz.prog w0 117 [.agg (a0.cs)] ⟨B,Rw,L⟩ fun x st=>x = .val (.int .i64 r)∧st=⟨B,Rw,L⟩:=by
 rw [FZ] at h
 refine hd [.tmp 2] Tryz.func117 Tryz.ntmps117 fun M0 W0 g e c a f d hs=>?_
 simp only [Au]
 refine rg [1] hs ?_
 refine rc 2 [2] hs ?_;intro K2 b
 refine Ai _ (GF w0 _ _ _ a0.int ((-719162)) 2932896) (hv hs) ?_
 refine ne hs b ?_
 clear b
 exact rT h hs a d
theorem VW (w0:World) (B:List (List AV)) (Rw:List RowA) (L:List LoopA) (a0:Vl) :
  ACalls Tryz.prog w0 117 [.agg (a0.cs)] ⟨B,Rw,L⟩ fun x st=>x = .val (.int .i64 (FZ a0))∧st=⟨B,Rw,L⟩:=X7 w0 B Rw L a0 _ rfl
def FY (b:Vl):Int :=
 Cd b.int ((-62135596800000)) 253402300799999
theorem Xq (w0:World) (B:List (List AV)) (Rw:List RowA) (L:List LoopA) (a0:Vl) (r:Int) (h:FY a0=r) :
  ACalls Tryz.prog w0 118 [.agg (a0.cs)] ⟨B,Rw,L⟩ fun x st=>x = .val (.int .i64 r)∧st=⟨B,Rw,L⟩:=by
 rw [FY] at h
 refine hd [.tmp 2] Tryz.func118 Tryz.ntmps118 fun M0 W0 g e c a f d hs=>?_
 simp only [Au]
 refine rg [1] hs ?_
 refine rc 2 [2] hs ?_;intro K2 b
 refine Ai _ (GF w0 _ _ _ a0.int ((-62135596800000)) 253402300799999) (hv hs) ?_
 refine ne hs b ?_
 clear b
 exact rT h hs a d
theorem VQ (w0:World) (B:List (List AV)) (Rw:List RowA) (L:List LoopA) (a0:Vl) :
  ACalls Tryz.prog w0 118 [.agg (a0.cs)] ⟨B,Rw,L⟩ fun x st=>x = .val (.int .i64 (FY a0))∧st=⟨B,Rw,L⟩:=Xq w0 B Rw L a0 _ rfl
def FV (b:Vl):Int :=
 Dw (b.list.length:Int) 256 9
theorem Xw (w0:World) (B:List (List AV)) (Rw:List RowA) (L:List LoopA) (a0:Vl) (r:Int) (h:FV a0=r) :
  ACalls Tryz.prog w0 119 [.agg (a0.cs)] ⟨B,Rw,L⟩ fun x st=>x = .val (.int .i64 r)∧st=⟨B,Rw,L⟩:=by
 rw [FV] at h
 refine hd [.tmp 2] Tryz.func119 Tryz.ntmps119 fun M0 W0 g e c a f d hs=>?_
 simp only [Au]
 refine rg [1] hs ?_
 refine rc 2 [2] hs ?_;intro K2 b
 refine Ai _ (KF w0 _ _ _ (a0.list.length:Int) 256 9) (hv hs) ?_
 refine ne hs b ?_
 clear b
 exact rT h hs a d
theorem VF (w0:World) (B:List (List AV)) (Rw:List RowA) (L:List LoopA) (a0:Vl) :
  ACalls Tryz.prog w0 119 [.agg (a0.cs)] ⟨B,Rw,L⟩ fun x st=>x = .val (.int .i64 (FV a0))∧st=⟨B,Rw,L⟩:=Xw w0 B Rw L a0 _ rfl
def Ks (n:Nat)  : Option Int :=
 some (0)
def Ez (n:Nat) (q:Vl):Nat→Int→Option Int
 | 0,_=>none
 | m+1,b =>
  if decide (b<(q.fields.length:Int)) then
   (B7 q.fields b).bind fun g =>
   if g.1.size≤maxLen then
    if !(E5 g.1) then
     some (12)
    else
     if decide (0<b) then
      if BQ (b-1) then
       (B7 q.fields (b-1)).bind fun h =>
       if Cb g.1 h.1 then
        some (7)
       else
        if BQ (b-1) then
         if WT g.1 h.1 then
          some (24)
         else
          if BQ (b+1) then
           (Ez n q m) (b+1)
          else none
        else none
      else none
     else
      if BQ (b+1) then
       (Ez n q m) (b+1)
      else none
   else none
  else
   Ks n 
def JG (n:Nat) (b:Vl):Option Int :=
 if !(decide ((Dw (b.fields.length:Int) 64 9)=0)) then
  some (Dw (b.fields.length:Int) 64 9)
 else
  Ez n b n 0
theorem W3 (w0:World) (n:Nat) (B:List (List AV)) (Rw:List RowA) (L:List LoopA) (a0:Vl) (r:Int) (h:JG n a0=some r) :
  ACalls Tryz.prog w0 120 [.agg (a0.cs)] ⟨B,Rw,L⟩ fun x st=>x = .val (.int .i64 r)∧st=⟨B,Rw,L⟩:=by
 rw [JG] at h
 refine hd [.tmp 2] Tryz.func120 Tryz.ntmps120 fun M0 W0 H t w b Q g hs=>?_
 simp only [Au]
 refine rg [1] hs ?_
 apply Ah;intro K2 y
 refine rc 2 [1,3] hs ?_;intro K3 q
 refine Ai _ (KF w0 _ _ _ (a0.fields.length:Int) 64 9) (hv hs) ?_
 refine ne hs q ?_
 clear q
 refine rg [1,3,11] hs ?_
 refine AN h hs (fun hs h=>?_) (fun hs h=>?_)
 ·refine rg [2] hs ?_
  exact rt h hs b g
 refine sk [1] hs y ?_
 clear y
 refine Aw (fun e st=>Ck e st B Rw L [] [a0.cs] [] (Ks n  = some r)) ?_ ?_
 ·intro K9 z
  refine rg [1,14,15,16] hs ?_
  apply Ak
  refine AC (fun m e st=>∃ (a:Int),Ck e st B Rw L [(1,true,.box B.length 0),(14,true,.list (a0.fields.map BM) .none),(15,true,.val (.int .i64 (a0.fields.length:Int))),(16,true,.val (.int .i64 a))] [a0.cs] [] (Ez n a0 m a=some r)) n ⟨0,([]),Rw,ef hs,ef hs,g,h⟩ ?_
  rintro ml11 e st ⟨a,Xl11,Rl11,rfl,rfl,g,h⟩ Ul11 Vl11
  cases ml11 with
  | zero=>cases h
  | succ ml11 =>
  rw [Ez] at h
  refine td H t w b g ?_
  refine rg [1,14,15,16,17] hs ?_
  apply Ah;intro K13 j
  refine AN h hs (fun hs h=>?_) (fun hs h=>?_)
  rotate_left
  ·refine sx [] hs z ?_
   exact ⟨([]),Rl11,ef hs,ef hs,g,h⟩
  refine sk [1,14,15,16] hs j ?_
  clear j
  apply Ah;intro K15 c
  apply Ak
  obtain ⟨i,v,h⟩:=bind_some h
  obtain ⟨F,C,p⟩:=AA v
  have l:=AB (f:=BM) p
  have hs:=Aa l hs
  refine rg [1,4,5,14,15,16] hs ?_
  apply Ak
  obtain ⟨u,h⟩:=Aj h
  refine rc 2 [1,4,5,14,15,16,21] hs ?_;intro K18 k
  refine Ai _ (RE w0 _ _ _ i.1 u) (hv hs) ?_
  refine ne hs k ?_
  clear k
  refine AN h hs (fun hs h=>?_) (fun hs h=>?_)
  ·refine rg [2] hs ?_
   exact rt h hs b g
  apply Ah;intro K22 d
  rcases Bool.eq_false_or_eq_true (decide (0<a)) with hf23 | hf23
  ·replace h:=Ba h hf23
   obtain ⟨G,h⟩:=Aj h
   obtain ⟨O,D,E,o,h⟩:=ix BM h
   have hs:=Aa hf23 hs
   have hs:=Aa o hs
   refine dl 15 1 1 [1,4,5,14,15,16,26] hs HH d ?_
   clear d
   refine AN h hs (fun hs h=>?_) (fun hs h=>?_)
   ·refine rg [2] hs ?_
    exact rt h hs b g
   obtain ⟨J,h⟩:=Aj h
   refine dg 15 1 1 [1,14,15,16,41] hs HH ?_
   refine AN h hs (fun hs h=>?_) (fun hs h=>?_)
   ·refine rg [2] hs ?_
    exact rt h hs b g
   refine sk [1,14,15,16] hs c ?_
   clear c
   obtain ⟨N,h⟩:=Aj h
   refine rl [1,14,15,16] hs (fun e s=>Vl11 ml11 e s (Nat.lt_succ_self _)) ?_
   exact ⟨(a+1),([.val (.string i.1)::(i.2.cs)]),Rl11,ef hs,ef hs,g,h⟩
  ·replace h:=A9 h hf23
   have hs:=Aa hf23 hs
   refine dl 15 1 1 [1,4,5,14,15,16,26] hs HH d ?_
   clear d
   refine A4 false ev (ef hs) (fun hb33=>by cases hb33) (fun hb33=>?_)
   refine dg 15 1 1 [1,14,15,16,41] hs HH ?_
   refine A4 false ev (ef hs) (fun hb35=>by cases hb35) (fun hb35=>?_)
   refine sk [1,14,15,16] hs c ?_
   clear c
   obtain ⟨K,h⟩:=Aj h
   refine rl [1,14,15,16] hs (fun e s=>Vl11 ml11 e s (Nat.lt_succ_self _)) ?_
   exact ⟨(a+1),([.val (.string i.1)::(i.2.cs)]),Rl11,ef hs,ef hs,g,h⟩
 ·clear h;rintro e st ⟨Xk8,Rk8,rfl,rfl,g,h⟩
  rw [Ks] at h
  refine td H t w b g ?_
  refine rg [2] hs ?_
  exact rt h hs b g
def MH (b:Vl):Bool :=
 (((((((((decide (b.kind=1))||(decide (b.kind=2)))||(decide (b.kind=6)))||(decide (b.kind=7)))||(decide (b.kind=3)))||(decide (b.int=0)))&&((decide (b.kind=3))||(decide (b.scale=0))))&&((((decide (b.kind=4))||(decide (b.kind=5)))||(decide (b.kind=10)))||(Cb b.text ((⟨#[]⟩:ByteArray)))))&&(((decide (b.kind=8))||(decide (b.kind=10)))||(decide ((b.list.length:Int)=0))))&&((decide (b.kind=9))||(decide ((b.fields.length:Int)=0)))
theorem ZbZ (w0:World) (B:List (List AV)) (Rw:List RowA) (L:List LoopA) (a0:Vl) (r:Bool) (h:MH a0=r) :
  ACalls Tryz.prog w0 63 [.agg (a0.cs)] ⟨B,Rw,L⟩ fun x st=>x = .val (.bool r)∧st=⟨B,Rw,L⟩:=by
 rw [MH] at h
 refine hd [.tmp 2] Tryz.func63 Tryz.ntmps63 fun M0 W0 f d b a e c hs=>?_
 simp only [Au]
 refine rg [1] hs ?_
 refine rg [1,3] hs ?_
 refine rg [1,3,4] hs ?_
 refine rg [1,3,4,5] hs ?_
 refine rg [2] (al hs) ?_
 exact rT h hs a c
theorem Z3 (w0:World) (B:List (List AV)) (Rw:List RowA) (L:List LoopA) (a0:Vl) :
  ACalls Tryz.prog w0 63 [.agg (a0.cs)] ⟨B,Rw,L⟩ fun x st=>x = .val (.bool (MH a0))∧st=⟨B,Rw,L⟩:=ZbZ w0 B Rw L a0 _ rfl
def Ci (n:Nat)  : List (Nat × Vl)→Int→Option Int
 | [],b3_r7 =>
  some (0)
 | p_r7::rest,b3_r7 =>
  if BQ (b3_r7+1) then
   if decide (4096<(b3_r7+1)) then
    some (9)
   else
    if decide (8<(p_r7.1:Int)) then
     some (23)
    else
     if Ce p_r7.2 then
      some (19)
     else
      if (decide (p_r7.2.kind<1))||(decide (10<p_r7.2.kind)) then
       some (11)
      else
       if !(MH p_r7.2) then
        some (3)
       else
        if decide (p_r7.2.kind=0) then
         none
        else
         if decide (p_r7.2.kind=1) then
          if !(decide ((FT p_r7.2)=0)) then
           some (FT p_r7.2)
          else
           (Ci n rest) (b3_r7+1)
         else
          if decide (p_r7.2.kind=2) then
           if !(decide ((F3 p_r7.2)=0)) then
            some (F3 p_r7.2)
           else
            (Ci n rest) (b3_r7+1)
          else
           if decide (p_r7.2.kind=3) then
            (JK n p_r7.2).bind fun b =>
            if !(decide (b=0)) then
             some (b)
            else
             (Ci n rest) (b3_r7+1)
           else
            if decide (p_r7.2.kind=4) then
             (Jv p_r7.2).bind fun h =>
             if !(decide (h=0)) then
              some (h)
             else
              (Ci n rest) (b3_r7+1)
            else
             if decide (p_r7.2.kind=5) then
              if !(decide ((F6 p_r7.2)=0)) then
               some (F6 p_r7.2)
              else
               (Ci n rest) (b3_r7+1)
             else
              if decide (p_r7.2.kind=6) then
               if !(decide ((FZ p_r7.2)=0)) then
                some (FZ p_r7.2)
               else
                (Ci n rest) (b3_r7+1)
              else
               if decide (p_r7.2.kind=7) then
                if !(decide ((FY p_r7.2)=0)) then
                 some (FY p_r7.2)
                else
                 (Ci n rest) (b3_r7+1)
               else
                if decide (p_r7.2.kind=8) then
                 if !(decide ((FV p_r7.2)=0)) then
                  some (FV p_r7.2)
                 else
                  (Ci n rest) (b3_r7+1)
                else
                 if decide (p_r7.2.kind=9) then
                  (JG n p_r7.2).bind fun q =>
                  if !(decide (q=0)) then
                   some (q)
                  else
                   (Ci n rest) (b3_r7+1)
                 else
                  if decide (p_r7.2.kind=10) then
                   (IR p_r7.2).bind fun g =>
                   if !(decide (g=0)) then
                    some (g)
                   else
                    (Ci n rest) (b3_r7+1)
                  else
                   none
  else none
def EX (n:Nat) (b:Vl):Option Int :=
 if b.depth<4611686018427387904∧b.wide=true then
  Ci n (EQ 1 b) 0
 else none
theorem KX (w0:World) (hT:Lib.Utf8Tabs 0 1 w0) (n:Nat) (B:List (List AV)) (Rw:List RowA) (L:List LoopA) (a0:Vl) (r:Int) (h:EX n a0=some r) :
  ACalls Tryz.prog w0 22 [.agg (a0.cs)] ⟨B,Rw,L⟩ fun x st=>x = .val (.int .i64 r)∧st=⟨B,Rw,L⟩:=by
 rw [EX] at h
 refine hd [.cell 2 32] Tryz.func22 Tryz.ntmps22 fun M0 W0 hN ap ax q hu d hs=>?_
 simp only [Au]
 refine rg [1,2] hs ?_
 apply Ah;intro K2 ak
 apply Ao 2 [1,2,3]
 rw [Am];simp +decide only [go_sem,Nat.reduceAdd,UT]
 (repeat' apply Aa)<;>first | refine Ai _ (ZcW w0 _ _ _ ) (by first | rfl | (simp +decide only [go_sem,Nat.reduceAdd,UT];done) | (simp +decide only [go_sem,Nat.reduceAdd,Vl.cs,Ty.cs,UT];done)) ?_ | exact cl
 rw [Am];simp +decide only [go_sem,Nat.reduceAdd,UT]
 (repeat' apply Aa)<;>first | refine ak _ _ ?_ | exact cl
 clear ak
 refine rg [1,2,3,4] hs ?_
 apply Ah;intro K4 ah
 refine rc 2 [2,3,4,10] hs ?_;intro K5 af
 refine BB _ (OQ w0 _ _ _ a0) (hv hs) ?_;rintro _ _ ⟨rfl,rfl⟩
 refine ne hs af ?_
 clear af
 apply Ak
 obtain ⟨ao,h⟩:=Aj h
 refine R7 (I3 a0) (fun st=>st.boxes[(B.length+4)]? = some a0.cs) (fun i st=>∃ (c:Int) (Rr7:List RowA),st=⟨B++([a0.cs,[.val (.int .i64 0)],[.val .nilFunc,.clo 108 [],.clo 110 [],.clo 111 [],.clo 113 [],.clo 116 [],.clo 117 [],.clo 118 [],.clo 119 [],.clo 120 [],.clo 121 []],[.val (.int .i64 c)],a0.cs]),Rr7,L⟩∧Owns Rw Rr7 []∧Ci n ((EQ 1 a0).drop i) c=some r) (fun ex st=>ex = .ret∧∃ (z0:List AV) (z2:List AV) (z3:List AV) (z4:List AV) (rows:List RowA),st=⟨B++[z0,[.val (.int .i64 r)],z2,z3,z4],rows,L⟩∧Owns Rw rows []) ev ev (Md w0 a0 ao _) (fun x hx=>P9 a0 x hx) (by decide) ?_ ⟨0,Rw,ef hs,d,h⟩ (fun _ _ h => .inl h.1) ?_ ?_ ?_
 ·rintro i st la ⟨c,Rr7,rfl,d,h⟩ _ _;simp +decide [St.push]
 ·rintro i s1 ⟨XB,XR,XL⟩ x M1 W1 l la a2 hX hI aw am hx g K hK
  obtain ⟨b,ar,rfl,hi⟩:=P6 a0 i x hx
  (try simp only at hX)
  subst hX
  obtain ⟨c,Rr7,rfl,d,h⟩:=hI
  rw [UN ar,Ci] at h
  have a:=d
  simp only [St.ext,St.push,List.append_assoc,List.append_nil]
  refine rg [2,3,4,5,12] hs ?_
  apply Ao 1 [2,3,4,5,6]
  rw [Am];simp +decide only [go_sem,Nat.reduceAdd]
  (repeat' apply Aa)<;>first | refine hK _ _ (by simp [St.ext,St.push]) (fun KQ f=>?_) | exact cl
  clear hK
  dsimp only [St.ext,St.push]
  apply Ak
  obtain ⟨a1,h⟩:=Aj h
  refine rg [2,3,4,5,6] hs ?_
  apply Ah;intro K11 t
  apply Ak
  refine rg [2,3,5,6,15] hs ?_
  refine AN h hs (fun hs h=>?_) (fun hs h=>?_)
  ·have j:=hs.1
   refine rg [2] hs ?_
   apply A2;simp +decide only [go_sem,Nat.reduceAdd,j]
   have hgt:=Option.some.inj h;subst hgt
   refine f _ _ _ ⟨⟨B++[a0.cs,[.val (.int .i64 9)],[.val .nilFunc,.clo 108 [],.clo 110 [],.clo 111 [],.clo 113 [],.clo 116 [],.clo 117 [],.clo 118 [],.clo 119 [],.clo 120 [],.clo 121 []],[.val (.int .i64 (c+1))],a0.cs],Rr7,L⟩,[b.2.cs],by first | rfl | (simp only [List.append_assoc,List.append_nil,List.cons_append,List.nil_append];done),⟨by simp,by first | exact Nat.le_refl _ | (have:=d.len;simp;omega),rfl⟩,rfl,⟨rfl,_,_,_,_,Rr7,ef hs,d.sub (List.nil_sublist _)⟩,?_⟩
   exact .inr (Bc g a d rfl (ln d a) Tj ow)
  have j:=hs.1
  refine rg [2,3,6,18] hs ?_
  refine AN h hs (fun hs h=>?_) (fun hs h=>?_)
  ·have k:=hs.1
   refine rg [2] hs ?_
   apply A2;simp +decide only [go_sem,Nat.reduceAdd,j,k]
   have hgt:=Option.some.inj h;subst hgt
   refine f _ _ _ ⟨⟨B++[a0.cs,[.val (.int .i64 23)],[.val .nilFunc,.clo 108 [],.clo 110 [],.clo 111 [],.clo 113 [],.clo 116 [],.clo 117 [],.clo 118 [],.clo 119 [],.clo 120 [],.clo 121 []],[.val (.int .i64 (c+1))],a0.cs],Rr7,L⟩,[b.2.cs],by first | rfl | (simp only [List.append_assoc,List.append_nil,List.cons_append,List.nil_append];done),⟨by simp,by first | exact Nat.le_refl _ | (have:=d.len;simp;omega),rfl⟩,rfl,⟨rfl,_,_,_,_,Rr7,ef hs,d.sub (List.nil_sublist _)⟩,?_⟩
   exact .inr (Bc g a d rfl (ln d a) Tj ow)
  have k:=hs.1
  refine rc 2 [2,3,6,21] hs ?_;intro K18 F
  refine Ai _ (NM w0 _ _ _ b.2) (hv hs) ?_
  refine ne hs F ?_
  clear F
  refine AN h hs (fun hs h=>?_) (fun hs h=>?_)
  ·have m:=hs.1
   refine rg [2] hs ?_
   apply A2;simp +decide only [go_sem,Nat.reduceAdd,j,k,m]
   have hgt:=Option.some.inj h;subst hgt
   refine f _ _ _ ⟨⟨B++[a0.cs,[.val (.int .i64 19)],[.val .nilFunc,.clo 108 [],.clo 110 [],.clo 111 [],.clo 113 [],.clo 116 [],.clo 117 [],.clo 118 [],.clo 119 [],.clo 120 [],.clo 121 []],[.val (.int .i64 (c+1))],a0.cs],Rr7,L⟩,[b.2.cs],by first | rfl | (simp only [List.append_assoc,List.append_nil,List.cons_append,List.nil_append];done),⟨by simp,by first | exact Nat.le_refl _ | (have:=d.len;simp;omega),rfl⟩,rfl,⟨rfl,_,_,_,_,Rr7,ef hs,d.sub (List.nil_sublist _)⟩,?_⟩
   exact .inr (Bc g a d rfl (ln d a) Tj ow)
  have m:=hs.1
  refine rg [2,3,6,24] hs ?_
  refine AN h hs (fun hs h=>?_) (fun hs h=>?_)
  ·have o:=hs.1
   refine rg [2] hs ?_
   apply A2;simp +decide only [go_sem,Nat.reduceAdd,j,k,m,o]
   have hgt:=Option.some.inj h;subst hgt
   refine f _ _ _ ⟨⟨B++[a0.cs,[.val (.int .i64 11)],[.val .nilFunc,.clo 108 [],.clo 110 [],.clo 111 [],.clo 113 [],.clo 116 [],.clo 117 [],.clo 118 [],.clo 119 [],.clo 120 [],.clo 121 []],[.val (.int .i64 (c+1))],a0.cs],Rr7,L⟩,[b.2.cs],by first | rfl | (simp only [List.append_assoc,List.append_nil,List.cons_append,List.nil_append];done),⟨by simp,by first | exact Nat.le_refl _ | (have:=d.len;simp;omega),rfl⟩,rfl,⟨rfl,_,_,_,_,Rr7,ef hs,d.sub (List.nil_sublist _)⟩,?_⟩
   exact .inr (Bc g a d rfl (ln d a) Tj ow)
  have o:=hs.1
  refine rc 2 [2,3,6,33] hs ?_;intro K24 G
  refine Ai _ (Z3 w0 _ _ _ b.2) (hv hs) ?_
  refine ne hs G ?_
  clear G
  refine AN h hs (fun hs h=>?_) (fun hs h=>?_)
  ·have p:=hs.1
   refine rg [2] hs ?_
   apply A2;simp +decide only [go_sem,Nat.reduceAdd,j,k,m,o,p]
   have hgt:=Option.some.inj h;subst hgt
   refine f _ _ _ ⟨⟨B++[a0.cs,[.val (.int .i64 3)],[.val .nilFunc,.clo 108 [],.clo 110 [],.clo 111 [],.clo 113 [],.clo 116 [],.clo 117 [],.clo 118 [],.clo 119 [],.clo 120 [],.clo 121 []],[.val (.int .i64 (c+1))],a0.cs],Rr7,L⟩,[b.2.cs],by first | rfl | (simp only [List.append_assoc,List.append_nil,List.cons_append,List.nil_append];done),⟨by simp,by first | exact Nat.le_refl _ | (have:=d.len;simp;omega),rfl⟩,rfl,⟨rfl,_,_,_,_,Rr7,ef hs,d.sub (List.nil_sublist _)⟩,?_⟩
   exact .inr (Bc g a d rfl (ln d a) Tj ow)
  have p:=hs.1
  refine sk [2,3,6] hs t ?_
  clear t
  apply Ah;intro K27 e
  rcases Bool.eq_false_or_eq_true (decide (b.2.kind=0)) with hf28 | hf28
  ·replace h:=Ba h hf28
   have az:b.2.kind=0:=of_decide_eq_true hf28
   cases h
  ·replace h:=A9 h hf28
   rcases Bool.eq_false_or_eq_true (decide (b.2.kind=1)) with hf30 | hf30
   ·replace h:=Ba h hf30
    have Z:b.2.kind=1:=of_decide_eq_true hf30
    have hs:=Aa hf28 hs
    have hs:=Aa hf30 hs
    have hs:=Aa Z hs
    refine dk 7 2 1 [2,7] hs HH ?_
    refine Ai _ (VM w0 _ _ _ b.2) (hv hs) ?_
    refine dn hs e ?_
    clear e
    refine rg [2,7,44] hs ?_
    refine AN h hs (fun hs h=>?_) (fun hs h=>?_)
    ·have Q:=hs.1
     refine rg [2] hs ?_
     apply A2;simp +decide only [go_sem,Nat.reduceAdd,j,k,m,o,p,hf28,hf30,Z,Q]
     have hgt:=Option.some.inj h;subst hgt
     refine f _ _ _ ⟨⟨B++[a0.cs,[.val (.int .i64 (FT b.2))],[.val .nilFunc,.clo 108 [],.clo 110 [],.clo 111 [],.clo 113 [],.clo 116 [],.clo 117 [],.clo 118 [],.clo 119 [],.clo 120 [],.clo 121 []],[.val (.int .i64 (c+1))],a0.cs],Rr7,L⟩,[b.2.cs],by first | rfl | (simp only [List.append_assoc,List.append_nil,List.cons_append,List.nil_append];done),⟨by simp,by first | exact Nat.le_refl _ | (have:=d.len;simp;omega),rfl⟩,rfl,⟨rfl,_,_,_,_,Rr7,ef hs,d.sub (List.nil_sublist _)⟩,?_⟩
     exact .inr (Bc g a d rfl (ln d a) Tj ow)
    have Q:=hs.1
    refine D3 (Dz [] _) ?_ (Bm _ _)
    apply Br;simp +decide only [go_sem,Nat.reduceAdd]
    (repeat' apply Aa)<;>first | refine f _ _ _ ⟨⟨B++[a0.cs,[.val (.int .i64 0)],[.val .nilFunc,.clo 108 [],.clo 110 [],.clo 111 [],.clo 113 [],.clo 116 [],.clo 117 [],.clo 118 [],.clo 119 [],.clo 120 [],.clo 121 []],[.val (.int .i64 (c+1))],a0.cs],Rr7,L⟩,[b.2.cs],by first | rfl | (simp only [List.append_assoc,List.append_nil,List.cons_append,List.nil_append];done),⟨by simp,by first | exact Nat.le_refl _ | (have:=d.len;simp;omega),rfl⟩,rfl,⟨(c+1),Rr7,ef hs,d,h⟩,?_⟩ | exact cl
    exact .inr (Bc g a d rfl (ln d a) Tj ow)
   ·replace h:=A9 h hf30
    rcases Bool.eq_false_or_eq_true (decide (b.2.kind=2)) with hf35 | hf35
    ·replace h:=Ba h hf35
     have u:b.2.kind=2:=of_decide_eq_true hf35
     have hs:=Aa hf28 hs
     have hs:=Aa hf30 hs
     have hs:=Aa hf35 hs
     have hs:=Aa u hs
     refine dk 7 2 1 [2,7] hs HH ?_
     refine Ai _ (VJ w0 _ _ _ b.2) (hv hs) ?_
     refine dn hs e ?_
     clear e
     refine rg [2,7,44] hs ?_
     refine AN h hs (fun hs h=>?_) (fun hs h=>?_)
     ·have C:=hs.1
      refine rg [2] hs ?_
      apply A2;simp +decide only [go_sem,Nat.reduceAdd,j,k,m,o,p,hf28,hf30,hf35,u,C]
      have hgt:=Option.some.inj h;subst hgt
      refine f _ _ _ ⟨⟨B++[a0.cs,[.val (.int .i64 (F3 b.2))],[.val .nilFunc,.clo 108 [],.clo 110 [],.clo 111 [],.clo 113 [],.clo 116 [],.clo 117 [],.clo 118 [],.clo 119 [],.clo 120 [],.clo 121 []],[.val (.int .i64 (c+1))],a0.cs],Rr7,L⟩,[b.2.cs],by first | rfl | (simp only [List.append_assoc,List.append_nil,List.cons_append,List.nil_append];done),⟨by simp,by first | exact Nat.le_refl _ | (have:=d.len;simp;omega),rfl⟩,rfl,⟨rfl,_,_,_,_,Rr7,ef hs,d.sub (List.nil_sublist _)⟩,?_⟩
      exact .inr (Bc g a d rfl (ln d a) Tj ow)
     have C:=hs.1
     refine D3 (Dz [] _) ?_ (Bm _ _)
     apply Br;simp +decide only [go_sem,Nat.reduceAdd]
     (repeat' apply Aa)<;>first | refine f _ _ _ ⟨⟨B++[a0.cs,[.val (.int .i64 0)],[.val .nilFunc,.clo 108 [],.clo 110 [],.clo 111 [],.clo 113 [],.clo 116 [],.clo 117 [],.clo 118 [],.clo 119 [],.clo 120 [],.clo 121 []],[.val (.int .i64 (c+1))],a0.cs],Rr7,L⟩,[b.2.cs],by first | rfl | (simp only [List.append_assoc,List.append_nil,List.cons_append,List.nil_append];done),⟨by simp,by first | exact Nat.le_refl _ | (have:=d.len;simp;omega),rfl⟩,rfl,⟨(c+1),Rr7,ef hs,d,h⟩,?_⟩ | exact cl
     exact .inr (Bc g a d rfl (ln d a) Tj ow)
    ·replace h:=A9 h hf35
     rcases Bool.eq_false_or_eq_true (decide (b.2.kind=3)) with hf40 | hf40
     ·replace h:=Ba h hf40
      have ad:b.2.kind=3:=of_decide_eq_true hf40
      obtain ⟨au,ae,h⟩:=bind_some h
      have hs:=Aa hf28 hs
      have hs:=Aa hf30 hs
      have hs:=Aa hf35 hs
      have hs:=Aa hf40 hs
      have hs:=Aa ad hs
      refine dk 7 2 1 [2,7] hs HH ?_
      refine Ai _ (Xa w0 n _ _ _ b.2 _ ae) (hv hs) ?_
      refine dn hs e ?_
      clear e
      refine rg [2,7,44] hs ?_
      refine AN h hs (fun hs h=>?_) (fun hs h=>?_)
      ·have v:=hs.1
       refine rg [2] hs ?_
       apply A2;simp +decide only [go_sem,Nat.reduceAdd,j,k,m,o,p,hf28,hf30,hf35,hf40,ad,v]
       have hgt:=Option.some.inj h;subst hgt
       refine f _ _ _ ⟨⟨B++[a0.cs,[.val (.int .i64 au)],[.val .nilFunc,.clo 108 [],.clo 110 [],.clo 111 [],.clo 113 [],.clo 116 [],.clo 117 [],.clo 118 [],.clo 119 [],.clo 120 [],.clo 121 []],[.val (.int .i64 (c+1))],a0.cs],Rr7,L⟩,[b.2.cs],by first | rfl | (simp only [List.append_assoc,List.append_nil,List.cons_append,List.nil_append];done),⟨by simp,by first | exact Nat.le_refl _ | (have:=d.len;simp;omega),rfl⟩,rfl,⟨rfl,_,_,_,_,Rr7,ef hs,d.sub (List.nil_sublist _)⟩,?_⟩
       exact .inr (Bc g a d rfl (ln d a) Tj ow)
      have v:=hs.1
      refine D3 (Dz [] _) ?_ (Bm _ _)
      apply Br;simp +decide only [go_sem,Nat.reduceAdd]
      (repeat' apply Aa)<;>first | refine f _ _ _ ⟨⟨B++[a0.cs,[.val (.int .i64 0)],[.val .nilFunc,.clo 108 [],.clo 110 [],.clo 111 [],.clo 113 [],.clo 116 [],.clo 117 [],.clo 118 [],.clo 119 [],.clo 120 [],.clo 121 []],[.val (.int .i64 (c+1))],a0.cs],Rr7,L⟩,[b.2.cs],by first | rfl | (simp only [List.append_assoc,List.append_nil,List.cons_append,List.nil_append];done),⟨by simp,by first | exact Nat.le_refl _ | (have:=d.len;simp;omega),rfl⟩,rfl,⟨(c+1),Rr7,ef hs,d,h⟩,?_⟩ | exact cl
      exact .inr (Bc g a d rfl (ln d a) Tj ow)
     ·replace h:=A9 h hf40
      rcases Bool.eq_false_or_eq_true (decide (b.2.kind=4)) with hf46 | hf46
      ·replace h:=Ba h hf46
       have J:b.2.kind=4:=of_decide_eq_true hf46
       obtain ⟨av,ag,h⟩:=bind_some h
       have hs:=Aa hf28 hs
       have hs:=Aa hf30 hs
       have hs:=Aa hf35 hs
       have hs:=Aa hf40 hs
       have hs:=Aa hf46 hs
       have hs:=Aa J hs
       refine dk 7 2 1 [2,7] hs HH ?_
       refine Ai _ (XS w0 hT _ _ _ b.2 _ ag) (hv hs) ?_
       refine dn hs e ?_
       clear e
       refine rg [2,7,44] hs ?_
       refine AN h hs (fun hs h=>?_) (fun hs h=>?_)
       ·have w:=hs.1
        refine rg [2] hs ?_
        apply A2;simp +decide only [go_sem,Nat.reduceAdd,j,k,m,o,p,hf28,hf30,hf35,hf40,hf46,J,w]
        have hgt:=Option.some.inj h;subst hgt
        refine f _ _ _ ⟨⟨B++[a0.cs,[.val (.int .i64 av)],[.val .nilFunc,.clo 108 [],.clo 110 [],.clo 111 [],.clo 113 [],.clo 116 [],.clo 117 [],.clo 118 [],.clo 119 [],.clo 120 [],.clo 121 []],[.val (.int .i64 (c+1))],a0.cs],Rr7,L⟩,[b.2.cs],by first | rfl | (simp only [List.append_assoc,List.append_nil,List.cons_append,List.nil_append];done),⟨by simp,by first | exact Nat.le_refl _ | (have:=d.len;simp;omega),rfl⟩,rfl,⟨rfl,_,_,_,_,Rr7,ef hs,d.sub (List.nil_sublist _)⟩,?_⟩
        exact .inr (Bc g a d rfl (ln d a) Tj ow)
       have w:=hs.1
       refine D3 (Dz [] _) ?_ (Bm _ _)
       apply Br;simp +decide only [go_sem,Nat.reduceAdd]
       (repeat' apply Aa)<;>first | refine f _ _ _ ⟨⟨B++[a0.cs,[.val (.int .i64 0)],[.val .nilFunc,.clo 108 [],.clo 110 [],.clo 111 [],.clo 113 [],.clo 116 [],.clo 117 [],.clo 118 [],.clo 119 [],.clo 120 [],.clo 121 []],[.val (.int .i64 (c+1))],a0.cs],Rr7,L⟩,[b.2.cs],by first | rfl | (simp only [List.append_assoc,List.append_nil,List.cons_append,List.nil_append];done),⟨by simp,by first | exact Nat.le_refl _ | (have:=d.len;simp;omega),rfl⟩,rfl,⟨(c+1),Rr7,ef hs,d,h⟩,?_⟩ | exact cl
       exact .inr (Bc g a d rfl (ln d a) Tj ow)
      ·replace h:=A9 h hf46
       rcases Bool.eq_false_or_eq_true (decide (b.2.kind=5)) with hf52 | hf52
       ·replace h:=Ba h hf52
        have E:b.2.kind=5:=of_decide_eq_true hf52
        have hs:=Aa hf28 hs
        have hs:=Aa hf30 hs
        have hs:=Aa hf35 hs
        have hs:=Aa hf40 hs
        have hs:=Aa hf46 hs
        have hs:=Aa hf52 hs
        have hs:=Aa E hs
        refine dk 7 2 1 [2,7] hs HH ?_
        refine Ai _ (VZ w0 _ _ _ b.2) (hv hs) ?_
        refine dn hs e ?_
        clear e
        refine rg [2,7,44] hs ?_
        refine AN h hs (fun hs h=>?_) (fun hs h=>?_)
        ·have Y:=hs.1
         refine rg [2] hs ?_
         apply A2;simp +decide only [go_sem,Nat.reduceAdd,j,k,m,o,p,hf28,hf30,hf35,hf40,hf46,hf52,E,Y]
         have hgt:=Option.some.inj h;subst hgt
         refine f _ _ _ ⟨⟨B++[a0.cs,[.val (.int .i64 (F6 b.2))],[.val .nilFunc,.clo 108 [],.clo 110 [],.clo 111 [],.clo 113 [],.clo 116 [],.clo 117 [],.clo 118 [],.clo 119 [],.clo 120 [],.clo 121 []],[.val (.int .i64 (c+1))],a0.cs],Rr7,L⟩,[b.2.cs],by first | rfl | (simp only [List.append_assoc,List.append_nil,List.cons_append,List.nil_append];done),⟨by simp,by first | exact Nat.le_refl _ | (have:=d.len;simp;omega),rfl⟩,rfl,⟨rfl,_,_,_,_,Rr7,ef hs,d.sub (List.nil_sublist _)⟩,?_⟩
         exact .inr (Bc g a d rfl (ln d a) Tj ow)
        have Y:=hs.1
        refine D3 (Dz [] _) ?_ (Bm _ _)
        apply Br;simp +decide only [go_sem,Nat.reduceAdd]
        (repeat' apply Aa)<;>first | refine f _ _ _ ⟨⟨B++[a0.cs,[.val (.int .i64 0)],[.val .nilFunc,.clo 108 [],.clo 110 [],.clo 111 [],.clo 113 [],.clo 116 [],.clo 117 [],.clo 118 [],.clo 119 [],.clo 120 [],.clo 121 []],[.val (.int .i64 (c+1))],a0.cs],Rr7,L⟩,[b.2.cs],by first | rfl | (simp only [List.append_assoc,List.append_nil,List.cons_append,List.nil_append];done),⟨by simp,by first | exact Nat.le_refl _ | (have:=d.len;simp;omega),rfl⟩,rfl,⟨(c+1),Rr7,ef hs,d,h⟩,?_⟩ | exact cl
        exact .inr (Bc g a d rfl (ln d a) Tj ow)
       ·replace h:=A9 h hf52
        rcases Bool.eq_false_or_eq_true (decide (b.2.kind=6)) with hf57 | hf57
        ·replace h:=Ba h hf57
         have O:b.2.kind=6:=of_decide_eq_true hf57
         have hs:=Aa hf28 hs
         have hs:=Aa hf30 hs
         have hs:=Aa hf35 hs
         have hs:=Aa hf40 hs
         have hs:=Aa hf46 hs
         have hs:=Aa hf52 hs
         have hs:=Aa hf57 hs
         have hs:=Aa O hs
         refine dk 7 2 1 [2,7] hs HH ?_
         refine Ai _ (VW w0 _ _ _ b.2) (hv hs) ?_
         refine dn hs e ?_
         clear e
         refine rg [2,7,44] hs ?_
         refine AN h hs (fun hs h=>?_) (fun hs h=>?_)
         ·have N:=hs.1
          refine rg [2] hs ?_
          apply A2;simp +decide only [go_sem,Nat.reduceAdd,j,k,m,o,p,hf28,hf30,hf35,hf40,hf46,hf52,hf57,O,N]
          have hgt:=Option.some.inj h;subst hgt
          refine f _ _ _ ⟨⟨B++[a0.cs,[.val (.int .i64 (FZ b.2))],[.val .nilFunc,.clo 108 [],.clo 110 [],.clo 111 [],.clo 113 [],.clo 116 [],.clo 117 [],.clo 118 [],.clo 119 [],.clo 120 [],.clo 121 []],[.val (.int .i64 (c+1))],a0.cs],Rr7,L⟩,[b.2.cs],by first | rfl | (simp only [List.append_assoc,List.append_nil,List.cons_append,List.nil_append];done),⟨by simp,by first | exact Nat.le_refl _ | (have:=d.len;simp;omega),rfl⟩,rfl,⟨rfl,_,_,_,_,Rr7,ef hs,d.sub (List.nil_sublist _)⟩,?_⟩
          exact .inr (Bc g a d rfl (ln d a) Tj ow)
         have N:=hs.1
         refine D3 (Dz [] _) ?_ (Bm _ _)
         apply Br;simp +decide only [go_sem,Nat.reduceAdd]
         (repeat' apply Aa)<;>first | refine f _ _ _ ⟨⟨B++[a0.cs,[.val (.int .i64 0)],[.val .nilFunc,.clo 108 [],.clo 110 [],.clo 111 [],.clo 113 [],.clo 116 [],.clo 117 [],.clo 118 [],.clo 119 [],.clo 120 [],.clo 121 []],[.val (.int .i64 (c+1))],a0.cs],Rr7,L⟩,[b.2.cs],by first | rfl | (simp only [List.append_assoc,List.append_nil,List.cons_append,List.nil_append];done),⟨by simp,by first | exact Nat.le_refl _ | (have:=d.len;simp;omega),rfl⟩,rfl,⟨(c+1),Rr7,ef hs,d,h⟩,?_⟩ | exact cl
         exact .inr (Bc g a d rfl (ln d a) Tj ow)
        ·replace h:=A9 h hf57
         rcases Bool.eq_false_or_eq_true (decide (b.2.kind=7)) with hf62 | hf62
         ·replace h:=Ba h hf62
          have z:b.2.kind=7:=of_decide_eq_true hf62
          have hs:=Aa hf28 hs
          have hs:=Aa hf30 hs
          have hs:=Aa hf35 hs
          have hs:=Aa hf40 hs
          have hs:=Aa hf46 hs
          have hs:=Aa hf52 hs
          have hs:=Aa hf57 hs
          have hs:=Aa hf62 hs
          have hs:=Aa z hs
          refine dk 7 2 1 [2,7] hs HH ?_
          refine Ai _ (VQ w0 _ _ _ b.2) (hv hs) ?_
          refine dn hs e ?_
          clear e
          refine rg [2,7,44] hs ?_
          refine AN h hs (fun hs h=>?_) (fun hs h=>?_)
          ·have aa:=hs.1
           refine rg [2] hs ?_
           apply A2;simp +decide only [go_sem,Nat.reduceAdd,j,k,m,o,p,hf28,hf30,hf35,hf40,hf46,hf52,hf57,hf62,z,aa]
           have hgt:=Option.some.inj h;subst hgt
           refine f _ _ _ ⟨⟨B++[a0.cs,[.val (.int .i64 (FY b.2))],[.val .nilFunc,.clo 108 [],.clo 110 [],.clo 111 [],.clo 113 [],.clo 116 [],.clo 117 [],.clo 118 [],.clo 119 [],.clo 120 [],.clo 121 []],[.val (.int .i64 (c+1))],a0.cs],Rr7,L⟩,[b.2.cs],by first | rfl | (simp only [List.append_assoc,List.append_nil,List.cons_append,List.nil_append];done),⟨by simp,by first | exact Nat.le_refl _ | (have:=d.len;simp;omega),rfl⟩,rfl,⟨rfl,_,_,_,_,Rr7,ef hs,d.sub (List.nil_sublist _)⟩,?_⟩
           exact .inr (Bc g a d rfl (ln d a) Tj ow)
          have aa:=hs.1
          refine D3 (Dz [] _) ?_ (Bm _ _)
          apply Br;simp +decide only [go_sem,Nat.reduceAdd]
          (repeat' apply Aa)<;>first | refine f _ _ _ ⟨⟨B++[a0.cs,[.val (.int .i64 0)],[.val .nilFunc,.clo 108 [],.clo 110 [],.clo 111 [],.clo 113 [],.clo 116 [],.clo 117 [],.clo 118 [],.clo 119 [],.clo 120 [],.clo 121 []],[.val (.int .i64 (c+1))],a0.cs],Rr7,L⟩,[b.2.cs],by first | rfl | (simp only [List.append_assoc,List.append_nil,List.cons_append,List.nil_append];done),⟨by simp,by first | exact Nat.le_refl _ | (have:=d.len;simp;omega),rfl⟩,rfl,⟨(c+1),Rr7,ef hs,d,h⟩,?_⟩ | exact cl
          exact .inr (Bc g a d rfl (ln d a) Tj ow)
         ·replace h:=A9 h hf62
          rcases Bool.eq_false_or_eq_true (decide (b.2.kind=8)) with hf67 | hf67
          ·replace h:=Ba h hf67
           have V:b.2.kind=8:=of_decide_eq_true hf67
           have hs:=Aa hf28 hs
           have hs:=Aa hf30 hs
           have hs:=Aa hf35 hs
           have hs:=Aa hf40 hs
           have hs:=Aa hf46 hs
           have hs:=Aa hf52 hs
           have hs:=Aa hf57 hs
           have hs:=Aa hf62 hs
           have hs:=Aa hf67 hs
           have hs:=Aa V hs
           refine dk 7 2 1 [2,7] hs HH ?_
           refine Ai _ (VF w0 _ _ _ b.2) (hv hs) ?_
           refine dn hs e ?_
           clear e
           refine rg [2,7,44] hs ?_
           refine AN h hs (fun hs h=>?_) (fun hs h=>?_)
           ·have U:=hs.1
            refine rg [2] hs ?_
            apply A2;simp +decide only [go_sem,Nat.reduceAdd,j,k,m,o,p,hf28,hf30,hf35,hf40,hf46,hf52,hf57,hf62,hf67,V,U]
            have hgt:=Option.some.inj h;subst hgt
            refine f _ _ _ ⟨⟨B++[a0.cs,[.val (.int .i64 (FV b.2))],[.val .nilFunc,.clo 108 [],.clo 110 [],.clo 111 [],.clo 113 [],.clo 116 [],.clo 117 [],.clo 118 [],.clo 119 [],.clo 120 [],.clo 121 []],[.val (.int .i64 (c+1))],a0.cs],Rr7,L⟩,[b.2.cs],by first | rfl | (simp only [List.append_assoc,List.append_nil,List.cons_append,List.nil_append];done),⟨by simp,by first | exact Nat.le_refl _ | (have:=d.len;simp;omega),rfl⟩,rfl,⟨rfl,_,_,_,_,Rr7,ef hs,d.sub (List.nil_sublist _)⟩,?_⟩
            exact .inr (Bc g a d rfl (ln d a) Tj ow)
           have U:=hs.1
           refine D3 (Dz [] _) ?_ (Bm _ _)
           apply Br;simp +decide only [go_sem,Nat.reduceAdd]
           (repeat' apply Aa)<;>first | refine f _ _ _ ⟨⟨B++[a0.cs,[.val (.int .i64 0)],[.val .nilFunc,.clo 108 [],.clo 110 [],.clo 111 [],.clo 113 [],.clo 116 [],.clo 117 [],.clo 118 [],.clo 119 [],.clo 120 [],.clo 121 []],[.val (.int .i64 (c+1))],a0.cs],Rr7,L⟩,[b.2.cs],by first | rfl | (simp only [List.append_assoc,List.append_nil,List.cons_append,List.nil_append];done),⟨by simp,by first | exact Nat.le_refl _ | (have:=d.len;simp;omega),rfl⟩,rfl,⟨(c+1),Rr7,ef hs,d,h⟩,?_⟩ | exact cl
           exact .inr (Bc g a d rfl (ln d a) Tj ow)
          ·replace h:=A9 h hf67
           rcases Bool.eq_false_or_eq_true (decide (b.2.kind=9)) with hf72 | hf72
           ·replace h:=Ba h hf72
            have y:b.2.kind=9:=of_decide_eq_true hf72
            obtain ⟨aq,aj,h⟩:=bind_some h
            have hs:=Aa hf28 hs
            have hs:=Aa hf30 hs
            have hs:=Aa hf35 hs
            have hs:=Aa hf40 hs
            have hs:=Aa hf46 hs
            have hs:=Aa hf52 hs
            have hs:=Aa hf57 hs
            have hs:=Aa hf62 hs
            have hs:=Aa hf67 hs
            have hs:=Aa hf72 hs
            have hs:=Aa y hs
            refine dk 7 2 1 [2,7] hs HH ?_
            refine Ai _ (W3 w0 n _ _ _ b.2 _ aj) (hv hs) ?_
            refine dn hs e ?_
            clear e
            refine rg [2,7,44] hs ?_
            refine AN h hs (fun hs h=>?_) (fun hs h=>?_)
            ·have ab:=hs.1
             refine rg [2] hs ?_
             apply A2;simp +decide only [go_sem,Nat.reduceAdd,j,k,m,o,p,hf28,hf30,hf35,hf40,hf46,hf52,hf57,hf62,hf67,hf72,y,ab]
             have hgt:=Option.some.inj h;subst hgt
             refine f _ _ _ ⟨⟨B++[a0.cs,[.val (.int .i64 aq)],[.val .nilFunc,.clo 108 [],.clo 110 [],.clo 111 [],.clo 113 [],.clo 116 [],.clo 117 [],.clo 118 [],.clo 119 [],.clo 120 [],.clo 121 []],[.val (.int .i64 (c+1))],a0.cs],Rr7,L⟩,[b.2.cs],by first | rfl | (simp only [List.append_assoc,List.append_nil,List.cons_append,List.nil_append];done),⟨by simp,by first | exact Nat.le_refl _ | (have:=d.len;simp;omega),rfl⟩,rfl,⟨rfl,_,_,_,_,Rr7,ef hs,d.sub (List.nil_sublist _)⟩,?_⟩
             exact .inr (Bc g a d rfl (ln d a) Tj ow)
            have ab:=hs.1
            refine D3 (Dz [] _) ?_ (Bm _ _)
            apply Br;simp +decide only [go_sem,Nat.reduceAdd]
            (repeat' apply Aa)<;>first | refine f _ _ _ ⟨⟨B++[a0.cs,[.val (.int .i64 0)],[.val .nilFunc,.clo 108 [],.clo 110 [],.clo 111 [],.clo 113 [],.clo 116 [],.clo 117 [],.clo 118 [],.clo 119 [],.clo 120 [],.clo 121 []],[.val (.int .i64 (c+1))],a0.cs],Rr7,L⟩,[b.2.cs],by first | rfl | (simp only [List.append_assoc,List.append_nil,List.cons_append,List.nil_append];done),⟨by simp,by first | exact Nat.le_refl _ | (have:=d.len;simp;omega),rfl⟩,rfl,⟨(c+1),Rr7,ef hs,d,h⟩,?_⟩ | exact cl
            exact .inr (Bc g a d rfl (ln d a) Tj ow)
           ·replace h:=A9 h hf72
            rcases Bool.eq_false_or_eq_true (decide (b.2.kind=10)) with hf78 | hf78
            ·replace h:=Ba h hf78
             have D:b.2.kind=10:=of_decide_eq_true hf78
             obtain ⟨ay,ai,h⟩:=bind_some h
             have hs:=Aa hf28 hs
             have hs:=Aa hf30 hs
             have hs:=Aa hf35 hs
             have hs:=Aa hf40 hs
             have hs:=Aa hf46 hs
             have hs:=Aa hf52 hs
             have hs:=Aa hf57 hs
             have hs:=Aa hf62 hs
             have hs:=Aa hf67 hs
             have hs:=Aa hf72 hs
             have hs:=Aa hf78 hs
             have hs:=Aa D hs
             refine dk 7 2 1 [2,7] hs HH ?_
             refine Ai _ (V0 w0 _ _ _ b.2 _ ai) (hv hs) ?_
             refine dn hs e ?_
             clear e
             refine rg [2,7,44] hs ?_
             refine AN h hs (fun hs h=>?_) (fun hs h=>?_)
             ·have H:=hs.1
              refine rg [2] hs ?_
              apply A2;simp +decide only [go_sem,Nat.reduceAdd,j,k,m,o,p,hf28,hf30,hf35,hf40,hf46,hf52,hf57,hf62,hf67,hf72,hf78,D,H]
              have hgt:=Option.some.inj h;subst hgt
              refine f _ _ _ ⟨⟨B++[a0.cs,[.val (.int .i64 ay)],[.val .nilFunc,.clo 108 [],.clo 110 [],.clo 111 [],.clo 113 [],.clo 116 [],.clo 117 [],.clo 118 [],.clo 119 [],.clo 120 [],.clo 121 []],[.val (.int .i64 (c+1))],a0.cs],Rr7,L⟩,[b.2.cs],by first | rfl | (simp only [List.append_assoc,List.append_nil,List.cons_append,List.nil_append];done),⟨by simp,by first | exact Nat.le_refl _ | (have:=d.len;simp;omega),rfl⟩,rfl,⟨rfl,_,_,_,_,Rr7,ef hs,d.sub (List.nil_sublist _)⟩,?_⟩
              exact .inr (Bc g a d rfl (ln d a) Tj ow)
             have H:=hs.1
             refine D3 (Dz [] _) ?_ (Bm _ _)
             apply Br;simp +decide only [go_sem,Nat.reduceAdd]
             (repeat' apply Aa)<;>first | refine f _ _ _ ⟨⟨B++[a0.cs,[.val (.int .i64 0)],[.val .nilFunc,.clo 108 [],.clo 110 [],.clo 111 [],.clo 113 [],.clo 116 [],.clo 117 [],.clo 118 [],.clo 119 [],.clo 120 [],.clo 121 []],[.val (.int .i64 (c+1))],a0.cs],Rr7,L⟩,[b.2.cs],by first | rfl | (simp only [List.append_assoc,List.append_nil,List.cons_append,List.nil_append];done),⟨by simp,by first | exact Nat.le_refl _ | (have:=d.len;simp;omega),rfl⟩,rfl,⟨(c+1),Rr7,ef hs,d,h⟩,?_⟩ | exact cl
             exact .inr (Bc g a d rfl (ln d a) Tj ow)
            ·replace h:=A9 h hf78
             cases h
 ·rintro s la ⟨XB,XR,XL⟩ hXR ⟨c,Rr7,rfl,d,h⟩ _ _
  simp only at hXR
  subst hXR
  rw [List.drop_eq_nil_of_le (by rw [L9];exact Nat.le_refl _),Ci] at h
  simp only [St.ext,St.push,List.append_assoc,List.append_nil]
  (repeat' apply Aa)<;>first | refine ah _ _ ?_ | exact cl
  clear ah
  refine Rq (bs:=[a0.cs,[.val (.int .i64 0)],[.val .nilFunc,.clo 108 [],.clo 110 [],.clo 111 [],.clo 113 [],.clo 116 [],.clo 117 [],.clo 118 [],.clo 119 [],.clo 120 [],.clo 121 []],[.val (.int .i64 c)],a0.cs]) hN ap ax rfl q d ow ow ?_
  refine rg [2] hs ?_
  exact rt h hs q d
 ·rintro ex s la ⟨XB,XR,XL⟩ hXR ⟨rfl,z0,z2,z3,z4,rows,rfl,d⟩ _ _
  simp only at hXR
  subst hXR
  simp only [St.ext,St.push,List.append_assoc,List.append_nil]
  simp +decide only [go_sem,Nat.reduceAdd]
  (repeat' with_reducible apply Aa)<;>first | refine ZjJ q rfl d.pre ev ⟨?_,rfl⟩ | (intros;omega) | (intros;simp_all;done)
  first | rfl | (simp +decide only [go_sem,Nat.reduceAdd];done)
theorem Zy {j:Nat}:((j+1:Nat):Int)-1=(j:Int):=by omega
theorem ZaP {j:Nat}:decide (0<((j+1:Nat):Int))=true:=Ad (by omega)
theorem ZaR {k:Nat} (h:k<1000000000000):BQ (k:Int):=by unfold BQ;omega
def Tm:Option ByteArray→List ByteArray→Int
 | _,[]=>0
 | none,x::r=>if E5 x=true then Tm (some x) r else 12
 | some p,x::r=>if E5 x=true then (if Cb x p=true then 7 else if WT x p=true then 24 else Tm (some x) r) else 12
def Z1 (l:List (ByteArray × Vl)):Nat→Option ByteArray
 | 0=>none
 | i+1=>(l[i]?).map Prod.fst
theorem Za5 (n:Nat) (v:Vl) (hl:(v.fields).length≤1000000000000) (hz:∀ p∈v.fields,p.1.size≤maxLen):∀ (k m i:Nat),i+k=(v.fields).length→k<m→Ez n v m i=some (Tm (Z1 (v.fields) i) (((v.fields).map Prod.fst).drop i))
 | k,0,i,_,h=>absurd h (Nat.not_lt_zero _)
 | 0,m+1,i,hi,_=>by
  rw [Ez,As,Ac (by omega)]
  simp only [Bool.false_eq_true,if_false,Ks]
  rw [List.drop_eq_nil_of_le (by rw [List.length_map];omega)]
  cases Z1 (v.fields) i<;>rfl
 | k+1,m+1,i,hi,hm=>by
  have a:i<(v.fields).length:=by omega
  have ih:=Za5 n v hl hz k m (i+1) (by omega) (by omega)
  rw [Ez,As,Ad a]
  simp only [if_true,Az a,Ab]
  rw [Ae (hz _ (List.getElem_mem a)),List.drop_eq_getElem_cons (by rw [List.length_map];omega),List.getElem_map]
  have d:Z1 (v.fields) (i+1)=some (v.fields)[i].1:=by simp only [Z1,List.getElem?_eq_getElem a];rfl
  rw [d] at ih
  cases i with
  | zero =>
   simp only [Z1,Tm]
   by_cases hb:E5 (v.fields)[0].1=true
   ·rw [Ae hb,hb]
    simp only [Bool.not_true,Bool.false_eq_true,if_false]
    rw [Af (by decide),Ae (Av (by omega))]
    exact ih
   ·rw [Af hb,Bool.eq_false_iff.2 hb];rfl
  | succ j =>
   have b:j<(v.fields).length:=by omega
   have e:Z1 (v.fields) (j+1)=some (v.fields)[j].1:=by simp only [Z1,List.getElem?_eq_getElem b];rfl
   rw [e]
   simp only [Tm]
   by_cases hb:E5 (v.fields)[j+1].1=true
   ·rw [Ae hb,hb]
    simp only [Bool.not_true,Bool.false_eq_true,if_false,ZaP,if_true,Zy]
    have c:BQ (j:Int):=ZaR (by omega)
    simp only [Ae c,Az b,Ab]
    by_cases h1:Cb (v.fields)[j+1].1 (v.fields)[j].1=true
    ·rw [Ae h1,Ae h1]
    ·rw [Af h1,Af h1]
     by_cases h2:WT (v.fields)[j+1].1 (v.fields)[j].1=true
     ·rw [Ae h2,Ae h2]
     ·rw [Af h2,Af h2,Ae (Av (by omega))]
      exact ih
   ·rw [Af hb,Bool.eq_false_iff.2 hb];rfl
def FR (v:Vl):Int :=
 if Ce v=true then 19
 else if v.kind<1∨10<v.kind then 11
 else if Dv v=true then 3
 else if v.kind=1 then (if Dh v.int 0 1=true then 2 else 0)
 else if v.kind=2 then (if Dh v.int (-999999999999999) 999999999999999=true∨Dh v.scale 0 12=true then 2 else 0)
 else if v.kind=3 then (if Dh v.int (-999999999999999) 999999999999999=true∨Dh v.scale 0 12=true then 2 else 0)
 else if v.kind=4 then (if 1024<v.text.size then 5 else if Lib.validD v.text.data.toList=true then 0 else 16)
 else if v.kind=5 then (if 1024<v.text.size then 5 else 0)
 else if v.kind=6 then (if Dh v.int (-719162) 2932896=true then 2 else 0)
 else if v.kind=7 then (if Dh v.int (-62135596800000) 253402300799999=true then 2 else 0)
 else if v.kind=8 then (if 256<v.list.length then 9 else 0)
 else if v.kind=9 then (if 64<v.fields.length then 9 else Tm none (v.fields.map Prod.fst))
 else if E5 v.text=true then (if v.list.length=0 then 4 else if 1<v.list.length then 3 else 0) else 12
theorem H7 {k:Int} (h:¬ (k<1∨10<k)):k=1∨k=2∨k=3∨k=4∨k=5∨k=6∨k=7∨k=8∨k=9∨k=10:=by omega
theorem Zfq (v:Vl) (h:¬ (v.kind<1∨10<v.kind)):MH v = !Dv v:=by
 have a:∀ x:Nat,decide (0<(x:Int)) = !decide ((x:Int)=0):=fun x=>by
  by_cases h:x=0
  ·subst h;rfl
  ·rw [Ad (show 0<(x:Int) by omega),Ac (show ¬ (x:Int)=0 by omega)];rfl
 rw [MH,Dv]
 simp only [a]
 rcases H7 h with hk | hk | hk | hk | hk | hk | hk | hk | hk | hk<;>simp only [hk]<;>simp [Bool.and_assoc]
theorem Zio (n:Nat) (hn:3≤n) (a b:Int):MQ n [a,b]=some (if a=0 then b else a):=by
 obtain ⟨m,rfl⟩:∃ m,n=m+3:=⟨n-3,by omega⟩
 rw [MQ,Ii]
 simp only [List.length_cons,List.length_nil]
 rw [Ae (by simp),show B7 [a,b] 0=some a from rfl]
 simp only [Ab]
 by_cases h:a=0
 ·rw [Ad h,Af (by decide),Ae (by decide),Ae h,Ii]
  simp only [List.length_cons,List.length_nil]
  rw [Ae (by simp),show B7 [a,b] (0+1)=some b from rfl]
  simp only [Ab]
  by_cases h2:b=0
  ·rw [Ad h2,Af (by decide),Ae (by decide),Ii]
   simp only [List.length_cons,List.length_nil]
   rw [Af (by simp),Nq,h2]
  ·rw [Ac h2,Ae (by decide)]
 ·rw [Ac h,Ae (by decide),Af h]
theorem Zc6 (n:Nat) (hn:3≤n) (v:Vl) (hfl:v.fields.length<n) (hs:v.fields.length≤1000000000000) (hv:v.ok) (h1:¬ Ce v=true) (h2:¬ (v.kind<1∨10<v.kind)) (h3:¬ Dv v=true) :
  (v.kind=1→FT v=FR v)∧(v.kind=2→F3 v=FR v)∧(v.kind=3→JK n v=some (FR v))∧(v.kind=4→Jv v=some (FR v))∧(v.kind=5→F6 v=FR v) ∧
  (v.kind=6→FZ v=FR v)∧(v.kind=7→FY v=FR v)∧(v.kind=8→FV v=FR v)∧(v.kind=9→JG n v=some (FR v))∧(v.kind=10→IR v=some (FR v)):=by
 obtain ⟨f,_,d⟩:=v.ok_eq.1 hv
 have i:∀ p∈v.fields,p.1.size≤maxLen:=fun p g=>U2 (by have:=(d p g).1;omega)
 have c:v.text.size≤maxLen:=U2 f
 rw [FR,Af h1,Af h2,Af h3]
 refine ⟨fun a=>?_,fun a=>?_,fun a=>?_,fun a=>?_,fun a=>?_,fun a=>?_,fun a=>?_,fun a=>?_,fun a=>?_,fun a=>?_⟩
 ·simp [a,FT,Cd,Dh]
 ·have b:v.scale=0:=by
   rw [Dv] at h3
   simp [a] at h3
   exact h3.1.1.1
  simp [a,b,F3,Cd,Dh]
 ·rw [JK,Zio n hn]
  simp [a,Cd,Dh]
  by_cases q:v.int < -999999999999999∨999999999999999<v.int
  ·simp [q];omega
  ·simp [q];omega
 ·rw [Jv]
  simp only [a,Dw,HA,Ae c]
  simp
  (repeat' split)<;>first | rfl | (exfalso;omega) | simp_all
 ·simp [a,F6,Dw]
  (repeat' split)<;>first | rfl | (exfalso;omega) | simp_all
 ·simp [a,FZ,Cd,Dh]
 ·simp [a,FY,Cd,Dh]
 ·simp [a,FV,Dw]
  (repeat' split)<;>first | rfl | (exfalso;omega) | simp_all
 ·rw [JG]
  by_cases h:64<v.fields.length
  ·simp [a,Dw,h,show (64:Int)<(v.fields.length:Int) by omega]
  ·have e:=Za5 n v hs i v.fields.length n 0 (by omega) hfl
   simp only [List.drop_zero] at e
   simp only [a,Dw,Ac (show ¬ (64:Int)<(v.fields.length:Int) by omega),Bool.false_eq_true,if_false,decide_true,Bool.not_true,Af h]
   exact e
 ·rw [IR,Ae c]
  simp only [a,Dw]
  simp
  (repeat' split)<;>first | rfl | (exfalso;omega) | simp_all
theorem Zf5 (n:Nat) (hn:3≤n) (lv:Nat) (v:Vl) (rest:List (Nat × Vl)) (c:Int) (hfl:v.fields.length<n) (hs:v.fields.length≤1000000000000) (hv:v.ok) :
  Ci n ((lv,v)::rest) c=if BQ (c+1) then (if 4096<c+1 then some 9 else if 8<(lv:Int) then some 23 else if FR v=0 then Ci n rest (c+1) else some (FR v)) else none:=by
 rw [Ci]
 by_cases hI:BQ (c+1)
 rotate_left
 ·rw [Af hI,Af hI]
 rw [Ae hI,Ae hI]
 by_cases q1:4096<c+1
 ·rw [Ae q1,Ae (Ad q1)]
 rw [Af q1,Af (by simpa using q1)]
 by_cases q2:8<(lv:Int)
 ·rw [Ae q2,Ae (Ad q2)]
 rw [Af q2,Af (by simpa using q2)]
 simp only
 by_cases h1:Ce v=true
 ·have:FR v=19:=by rw [FR,Ae h1]
  rw [Ae h1,this];rfl
 rw [Af h1]
 by_cases h2:v.kind<1∨10<v.kind
 ·have:FR v=11:=by rw [FR,Af h1,Ae h2]
  rw [Ae (by simpa using h2),this];rfl
 rw [Af (by simpa using h2),Zfq v h2]
 by_cases h3:Dv v=true
 ·have:FR v=3:=by rw [FR,Af h1,Af h2,Ae h3]
  rw [h3,this];rfl
 rw [Bool.eq_false_iff.2 h3]
 obtain ⟨d,k,l,g,b,j,i,f,h,a⟩:=Zc6 n hn v hfl hs hv h1 h2 h3
 rcases H7 h2 with hk | hk | hk | hk | hk | hk | hk | hk | hk | hk
 ·have e:=d hk;by_cases z:FR v=0<;>simp [hk,e,z]
 ·have e:=k hk;by_cases z:FR v=0<;>simp [hk,e,z]
 ·have e:=l hk;by_cases z:FR v=0<;>simp [hk,e,z]
 ·have e:=g hk;by_cases z:FR v=0<;>simp [hk,e,z]
 ·have e:=b hk;by_cases z:FR v=0<;>simp [hk,e,z]
 ·have e:=j hk;by_cases z:FR v=0<;>simp [hk,e,z]
 ·have e:=i hk;by_cases z:FR v=0<;>simp [hk,e,z]
 ·have e:=f hk;by_cases z:FR v=0<;>simp [hk,e,z]
 ·have e:=h hk;by_cases z:FR v=0<;>simp [hk,e,z]
 ·have e:=a hk;by_cases z:FR v=0<;>simp [hk,e,z]
def SK:List (Nat × Vl)→Int→Int
 | [],_=>0
 | p::r,c=>if 4096<c+1 then 9 else if 8<(p.1:Int) then 23 else if FR p.2=0 then SK r (c+1) else FR p.2
def L1 (v:Vl):Int:=SK (EQ 1 v) 0
theorem O7 {v x:Vl} (h:x∈BV v):x∈v.list∨∃ p∈v.fields,p.2=x:=by
 unfold BV at h
 split at h
 ·exact .inl h
 ·split at h
  ·obtain ⟨p,a,rfl⟩:=List.mem_map.1 h;exact .inr ⟨p,a,rfl⟩
  ·simp at h
theorem Jc {v x:Vl} (h:x∈BV v):x.size<v.size:=by
 rcases O7 h with h | ⟨p,hp,rfl⟩
 ·exact v.list_size x h
 ·exact v.field_size p hp
theorem Zdy {v x:Vl} (hv:v.ok) (h:x∈BV v):x.ok:=by
 obtain ⟨_,b,a⟩:=v.ok_eq.1 hv
 rcases O7 h with h | ⟨p,hp,rfl⟩
 ·exact b x h
 ·exact (a p hp).2
theorem Zec:∀ (k:Nat) (v:Vl) (lv:Nat),v.size≤k→v.ok→∀ p∈EQ lv v,p.2.ok∧p.2.size≤v.size
 | 0,v,lv,h,hv,p,hp=>absurd h (by have:=v.size_eq;omega)
 | k+1,v,lv,h,hv,p,hp=>by
  rw [Nw] at hp
  rcases List.mem_cons.1 hp with rfl | hp
  ·exact ⟨hv,Nat.le_refl _⟩
  ·obtain ⟨x,a,hp⟩:=List.mem_flatMap.1 hp
   have:=Jc a
   obtain ⟨b,c⟩:=Zec k x (lv+1) (by omega) (Zdy hv a) p hp
   exact ⟨b,by omega⟩
theorem Ys:∀ (k:Nat) (v:Vl) (lv:Nat),v.size≤k→v.wide=true→∀ p∈EQ lv v,p.2.wide=true
 | 0,v,lv,h,hv,p,hp=>absurd h (by have:=v.size_eq;omega)
 | k+1,v,lv,h,hv,p,hp=>by
  rw [Nw] at hp
  rcases List.mem_cons.1 hp with rfl | hp
  ·exact hv
  ·obtain ⟨x,a,hp⟩:=List.mem_flatMap.1 hp
   have:=Jc a
   exact Ys k x (lv+1) (by omega) (WI hv a) p hp
theorem Pl (v:Vl):v.fields.length<v.size:=by have:=NW v.fields;have:=v.size_eq;omega
theorem R2 (n:Nat) (hn:3≤n):∀ (l:List (Nat × Vl)) (c:Int),(∀ p∈l,p.2.ok∧p.2.fields.length≤1000000000000∧p.2.fields.length<n)→0≤c→c≤4096→Ci n l c=some (SK l c)
 | [],c,_,_,_=>rfl
 | p::r,c,hl,h1,h2=>by
  obtain ⟨b,e,d⟩:=hl p (List.mem_cons_self ..)
  have:=Pl p.2
  rw [show p=(p.1,p.2) from rfl,Zf5 n hn p.1 p.2 r c (by omega) (by omega) b,Ae (by unfold BQ;omega),SK]
  simp only
  split
  ·rfl
  ·split
   ·rfl
   ·split
    ·exact R2 n hn r (c+1) (fun q a=>hl q (List.mem_cons_of_mem _ a)) (by omega) (by omega)
    ·rfl
theorem Zab (n:Nat) (v:Vl) (hn:v.size+3≤n) (hs:v.depth<4611686018427387904) (hw:v.wide=true) (hv:v.ok):EX n v=some (L1 v):=by
 rw [EX,Ae ⟨hs,hw⟩]
 exact R2 n (by omega) _ 0 (fun p a=>by obtain ⟨b,c⟩:=Zec v.size v 1 (Nat.le_refl _) hv p a;exact ⟨b,(p.2.wide_iff.1 (Ys v.size v 1 (Nat.le_refl _) hw p a)).2.1,by have:=Pl p.2;omega⟩) (by omega) (by omega)
theorem Wa (n:Nat) (v:Vl) (hn:v.size+3≤n) (hs:v.size<1048576) (hv:v.ok):EX n v=some (L1 v) :=
 Zab n v hn (by have:=v.depth_size;omega) (Hk _ v (Nat.le_refl _) (by omega)) hv
theorem TS:∀ l:List Vl,G8 l=(l.map Vl.size).sum
 | []=>rfl
 | v::r=>by simp [G8,TS r]
theorem Ue:∀ l:List (ByteArray × Vl),Gk l=(l.map fun p=>p.2.size).sum
 | []=>rfl
 | (_,v)::r=>by simp [Gk,Ue r]
theorem Zb7 (v:Vl):((BV v).map Vl.size).sum<v.size:=by
 have c:=v.size_eq
 unfold BV
 split
 ·rw [←TS];omega
 ·split
  ·rw [List.map_map]
   have:=Ue v.fields
   have e:(v.fields.map (Vl.size∘fun x=>x.2)).sum=Gk v.fields:=this.symm
   omega
  ·simp;omega
theorem SE (l:List Ty) (i:Nat) (h:i<l.length):FI (l.drop i)=l[i].size+FI (l.drop (i+1)):=by rw [List.drop_eq_getElem_cons h,FI]
theorem Nj (l:List TF) (i:Nat) (h:i<l.length):B9 (l.drop i)=l[i].2.2.2.1.size+B9 (l.drop (i+1)):=by
 rw [List.drop_eq_getElem_cons h]
 obtain ⟨a,b,c,t,d⟩:=l[i]
 rfl
def Ty.small (t:Ty):Prop:=t.size≤200∧t.depth≤12∧t.ok
def KE (rec:Ty→Vl→Option Bool) (h:Vl) (q:Ty):Option Bool :=
 (B7 q.elem 0).bind fun b =>
 (rec b h).bind fun g =>
 some (!g)
theorem Zap (w0:World) (rec:Ty→Vl→Option Bool) (ih:∀ (B:List (List AV)) (Rw:List RowA) (L:List LoopA) (a0:Ty) (a1:Vl) (r:Bool) (h:rec a0 a1=some r),ACalls Tryz.prog w0 107 [.agg (a0.cs),.agg (a1.cs)] ⟨B,Rw,L⟩ fun x st=>x = .val (.bool r)∧st=⟨B,Rw,L⟩) (B:List (List AV)) (Rw:List RowA) (L:List LoopA) (a0:Vl) (la1:Nat) (a1:Ty) (hla1:B[la1]? = some (a1.cs)) (r:Bool) (h:KE rec a0 a1=some r) :
  ACalls Tryz.prog w0 183 [.agg (a0.cs),.box la1 0] ⟨B,Rw,L⟩ fun x st=>x = .val (.bool r)∧st=⟨B,Rw,L⟩:=by
 rw [KE] at h
 refine hd [.tmp 3] Tryz.func183 Tryz.ntmps183 fun M0 W0 t n o b s p hs=>?_
 simp only [Au]
 have g:=(Ag.1 hla1).1
 have hs:=Aa (An hla1) hs
 refine rg [1,2] hs ?_
 obtain ⟨m,j,h⟩:=bind_some h
 obtain ⟨l,k,e⟩:=AA j
 have a:=AB (f:=HF) e
 have c:(a1.elem.map HF).getD 0 .junk=_:=a
 obtain ⟨q,i,h⟩:=bind_some h
 have hs:=Aa a hs
 have hs:=Aa c hs
 apply Ah;intro K2 d
 refine dk 8 2 1 [3] hs HH ?_
 refine Ai _ (ih _ _ _ m a0 _ i) (hv hs) ?_
 refine dn hs d ?_
 clear d
 exact rt h hs b p
def GP (n:Nat)  : Option Int :=
 some ((-1))
def BN (n:Nat) (g:List (ByteArray × Vl)) (s:(ByteArray × Vl)→Option Bool):Nat→Int→Option Int
 | 0,_=>none
 | m+1,b =>
  if decide (b<(g.length:Int)) then
   (B7 g b).bind fun h =>
   (s h).bind fun q =>
   if q then
    some (b)
   else
    if BQ (b+1) then
     (BN n g s m) (b+1)
    else none
  else
   GP n 
def CL (n:Nat) (b:List (ByteArray × Vl)) (g:(ByteArray × Vl)→Option Bool):Option Int :=
 BN n b g n 0
theorem IV (w0:World) (n:Nat) (B:List (List AV)) (Rw:List RowA) (L:List LoopA) (a0:List (ByteArray × Vl)) (fa1:FuncId) (ca1:List AV) (a1:(ByteArray × Vl)→Option Bool) (ha1:∀ (x0:ByteArray × Vl) r,a1 x0=some r→∀ B' rows,B <+: B'→Rw <+: rows→ACalls Tryz.prog w0 fa1 ([.agg (.val (.string x0.1)::(x0.2.cs))]++ca1) ⟨B',rows,L⟩ fun v s=>v = .val (.bool r)∧s=⟨B',rows,L⟩) (r:Int) (h:CL n a0 a1=some r) :
  ACalls Tryz.prog w0 67 [.list (a0.map BM) .none,.clo fa1 ca1] ⟨B,Rw,L⟩ fun x st=>x = .val (.int .i64 r)∧st=⟨B,Rw,L⟩:=by
 rw [CL] at h
 refine hd [.tmp 4] Tryz.func67 Tryz.ntmps67 fun M0 W0 C o t b F d hs=>?_
 simp only [Au]
 have c:=CH (F (.clo fa1 ca1) (by simp))
 refine rg [0,1] hs ?_
 refine Aw (fun e st=>Ck e st B Rw L [] [] [] (GP n  = some r)) ?_ ?_
 ·intro K4 y
  refine rg [0,1,7,8] hs ?_
  apply Ak
  refine AC (fun m e st=>∃ (a:Int),Ck e st B Rw L [(0,true,.list (a0.map BM) .none),(1,true,.clo fa1 ca1),(7,true,.val (.int .i64 (a0.length:Int))),(8,true,.val (.int .i64 a))] [] [] (BN n a0 a1 m a=some r)) n ⟨0,([]),Rw,ef hs,ef hs,d,h⟩ ?_
  rintro ml6 e st ⟨a,Xl6,Rl6,rfl,rfl,d,h⟩ Ul6 Vl6
  cases ml6 with
  | zero=>cases h
  | succ ml6 =>
  rw [BN] at h
  refine AM C o t rfl b d (Ju c d) (Ju c d) ?_
  refine rg [0,1,7,8,9] hs ?_
  apply Ah;intro K8 p
  refine AN h hs (fun hs h=>?_) (fun hs h=>?_)
  rotate_left
  ·refine sx [] hs y ?_
   exact ⟨([]),Rl6,ef hs,ef hs,d,h⟩
  refine sk [0,1,7,8] hs p ?_
  clear p
  apply Ah;intro K10 i
  apply Ak
  refine rg [0,1,5,7,8] hs ?_
  obtain ⟨w,l,h⟩:=bind_some h
  obtain ⟨u,z,j⟩:=AA l
  have k:=AB (f:=BM) j
  obtain ⟨E,q,h⟩:=bind_some h
  have hs:=Aa k hs
  refine rc 2 [0,1,5,7,8,16] hs ?_;intro K12 g
  refine F7 _ (ha1 w _ q _ _ px d.pre) (hv hs) ?_
  refine ne hs g ?_
  clear g
  refine AN h hs (fun hs h=>?_) (fun hs h=>?_)
  ·refine rg [4] hs ?_
   exact rt h hs b d
  refine sk [0,1,7,8] hs i ?_
  clear i
  obtain ⟨D,h⟩:=Aj h
  refine rl [0,1,7,8] hs (fun e s=>Vl6 ml6 e s (Nat.lt_succ_self _)) ?_
  exact ⟨(a+1),([]),Rl6,ef hs,ef hs,d,h⟩
 ·clear h;rintro e st ⟨Xk3,Rk3,rfl,rfl,d,h⟩
  rw [GP] at h
  refine AM C o t rfl b d (Ju c d) (Ju c d) ?_
  refine rg [4] hs ?_
  exact rt h hs b d
def FX (b:ByteArray × Vl) (g:ByteArray):Bool :=
 Cb b.1 g
theorem X9 (w0:World) (B:List (List AV)) (Rw:List RowA) (L:List LoopA) (a0:ByteArray × Vl) (la1:Nat) (a1:ByteArray) (hla1:B[la1]? = some ([.val (.string a1)])) (r:Bool) (h:FX a0 a1=r) :
  ACalls Tryz.prog w0 124 [.agg (.val (.string a0.1)::(a0.2.cs)),.box la1 0] ⟨B,Rw,L⟩ fun x st=>x = .val (.bool r)∧st=⟨B,Rw,L⟩:=by
 rw [FX] at h
 refine hd [.tmp 3] Tryz.func124 Tryz.ntmps124 fun M0 W0 g e c a f d hs=>?_
 simp only [Au]
 have b:=(Ag.1 hla1).1
 have hs:=Aa (An hla1) hs
 refine rg [1,2] hs ?_
 refine rg [3] hs ?_
 exact rT h hs a d
theorem VV (w0:World) (B:List (List AV)) (Rw:List RowA) (L:List LoopA) (a0:ByteArray × Vl) (la1:Nat) (a1:ByteArray) (hla1:B[la1]? = some ([.val (.string a1)])) :
  ACalls Tryz.prog w0 124 [.agg (.val (.string a0.1)::(a0.2.cs)),.box la1 0] ⟨B,Rw,L⟩ fun x st=>x = .val (.bool (FX a0 a1))∧st=⟨B,Rw,L⟩:=X9 w0 B Rw L a0 la1 a1 hla1 _ rfl
def Ja (n:Nat) (b:Vl) (g:ByteArray):Option Int :=
 (CL n b.fields (fun (h:ByteArray × Vl)=>some (FX h g))).bind fun q =>
 some (q)
theorem UX (w0:World) (n:Nat) (B:List (List AV)) (Rw:List RowA) (L:List LoopA) (a0:Vl) (a1:ByteArray) (r:Int) (h:Ja n a0 a1=some r) :
  ACalls Tryz.prog w0 64 [.agg (a0.cs),.val (.string a1)] ⟨B,Rw,L⟩ fun x st=>x = .val (.int .i64 r)∧st=⟨B,Rw,L⟩:=by
 rw [Ja] at h
 refine hd [.tmp 4] Tryz.func64 Tryz.ntmps64 fun M0 W0 k g e a j f hs=>?_
 simp only [Au]
 refine rg [2,3] hs ?_
 obtain ⟨l,hy3,h⟩:=bind_some h
 refine rc 2 [4] hs ?_;intro K2 b
 refine Ai _ (IV w0 n _ _ _ a0.fields 124 [.box (B.length+1) 0] (fun (x0:ByteArray × Vl)=>some (FX x0 a1)) (fun x0 r hx i c hB' d=>by cases hx;exact VV w0 _ _ _ x0 _ a1 (DY hB' ev)) _ hy3) (hv hs) ?_
 refine ne hs b ?_
 clear b
 exact rt h hs a f
def HB (n:Nat) (b:Vl) (s:ByteArray):Option (Vl × Bool) :=
 (Ja n b s).bind fun h =>
 if (!(decide (b.kind=9)))||(decide (h<0)) then
  some ((Vl.mk 0 0 0 ((⟨#[]⟩:ByteArray)) ([]) ([]),false))
 else
  (B7 b.fields h).bind fun q =>
  (Bn n q.2).bind fun g =>
  some ((g,true))
theorem Qp (w0:World) (n:Nat) (B:List (List AV)) (Rw:List RowA) (L:List LoopA) (a0:Vl) (a1:ByteArray) (r:Vl × Bool) (h:HB n a0 a1=some r) :
  ACalls Tryz.prog w0 185 [.agg (a0.cs),.val (.string a1)] ⟨B,Rw,L⟩ fun x st=>x = .tup [.agg (r.1.cs),.val (.bool r.2)]∧st=⟨B,Rw,L⟩:=by
 rw [HB] at h
 refine hd [.cell 4 46,.tmp 5] Tryz.func185 Tryz.ntmps185 fun M0 W0 u p t a v o hs=>?_
 simp only [Au]
 refine rg [1,2,4] hs ?_
 obtain ⟨w,j,h⟩:=bind_some h
 refine rc 2 [2,4,6] hs ?_;intro K2 i
 refine Ai _ (UX w0 n _ _ _ a0 a1 _ j) (hv hs) ?_
 refine ne hs i ?_
 clear i
 apply Ah;intro K4 g
 refine rg [2,4,6,16] hs ?_
 refine AN h hs (fun hs h=>?_) (fun hs h=>?_)
 ·refine rg [4,5] hs ?_
  exact rt h hs a o
 refine sk [2,4,6] hs g ?_
 clear g
 obtain ⟨s,k,h⟩:=bind_some h
 obtain ⟨l,m,b⟩:=AA k
 have e:=AB (f:=BM) b
 obtain ⟨q,c,h⟩:=bind_some h
 have hs:=Aa e hs
 refine rc 2 [4,5] hs ?_;intro K8 d
 refine Ai _ (Fb w0 n _ _ _ s.2 _ c) (hv hs) ?_
 refine ne hs d ?_
 clear d
 exact rt h hs a o
def KC (n:Nat) (b:Int × ByteArray × Int × Ty × List Vl) (g:Vl):Option Bool :=
 (HB n g b.2.1).bind fun h =>
 some ((!h.2)&&(!(decide (b.2.2.1=2))))
theorem ZS (w0:World) (n:Nat) (B:List (List AV)) (Rw:List RowA) (L:List LoopA) (a0:Int × ByteArray × Int × Ty × List Vl) (la1:Nat) (a1:Vl) (hla1:B[la1]? = some (a1.cs)) (r:Bool) (h:KC n a0 a1=some r) :
  ACalls Tryz.prog w0 184 [.agg (.val (.int .i64 a0.1)::(.val (.string a0.2.1)::(.val (.int .i64 a0.2.2.1)::((a0.2.2.2.1.cs)++([.list (a0.2.2.2.2.map Bo) .none]))))),.box la1 0] ⟨B,Rw,L⟩ fun x st=>x = .val (.bool r)∧st=⟨B,Rw,L⟩:=by
 rw [KC] at h
 refine hd [.tmp 3] Tryz.func184 Tryz.ntmps184 fun M0 W0 j g e a i f hs=>?_
 simp only [Au]
 have c:=(Ag.1 hla1).1
 have hs:=Aa (An hla1) hs
 refine rg [1,2] hs ?_
 obtain ⟨k,d,h⟩:=bind_some h
 refine rc 2 [2,5] hs ?_;intro K2 b
 refine Ai _ (Qp w0 n _ _ _ a1 a0.2.1 _ d) (hv hs) ?_
 refine ne hs b ?_
 clear b
 refine rg [3] hs ?_
 exact rt h hs a f
def AE (n:Nat) (b:List (Int × ByteArray × Int × Ty × List Vl)) (g:(Int × ByteArray × Int × Ty × List Vl)→Option Bool):Option Bool :=
 (AX n b g).bind fun h =>
 some (decide (0≤h))
theorem B8 (w0:World) (n:Nat) (B:List (List AV)) (Rw:List RowA) (L:List LoopA) (a0:List (Int × ByteArray × Int × Ty × List Vl)) (fa1:FuncId) (ca1:List AV) (a1:(Int × ByteArray × Int × Ty × List Vl)→Option Bool) (ha1:∀ (x0:Int × ByteArray × Int × Ty × List Vl) r,a1 x0=some r→∀ B' rows,B <+: B'→Rw <+: rows→ACalls Tryz.prog w0 fa1 ([.agg (.val (.int .i64 x0.1)::(.val (.string x0.2.1)::(.val (.int .i64 x0.2.2.1)::((x0.2.2.2.1.cs)++([.list (x0.2.2.2.2.map Bo) .none])))))]++ca1) ⟨B',rows,L⟩ fun v s=>v = .val (.bool r)∧s=⟨B',rows,L⟩) (r:Bool) (h:AE n a0 a1=some r) :
  ACalls Tryz.prog w0 150 [.list (a0.map Cm) .none,.clo fa1 ca1] ⟨B,Rw,L⟩ fun x st=>x = .val (.bool r)∧st=⟨B,Rw,L⟩:=by
 rw [AE] at h
 refine hd [.tmp 4] Tryz.func150 Tryz.ntmps150 fun M0 W0 p o k b m g hs=>?_
 simp only [Au]
 have e:=CH (m (.clo fa1 ca1) (by simp))
 refine rg [0,1] hs ?_
 obtain ⟨q,f,h⟩:=bind_some h
 refine rc 2 [4] hs ?_;intro K2 c
 refine Ai _ (DR w0 n _ _ _ a0 fa1 ca1 a1 (fun x0 r j d a l i=>ha1 x0 r j d a (List.IsPrefix.trans px l) (g.pre.trans i)) _ f) (hv hs) ?_
 refine ne hs c ?_
 clear c
 exact rt h hs b g
def GN (n:Nat)  : Option Int :=
 some ((-1))
def Cf (n:Nat) (g:List Vl) (s:Vl→Option Bool):Nat→Int→Option Int
 | 0,_=>none
 | m+1,b =>
  if decide (b<(g.length:Int)) then
   (B7 g b).bind fun h =>
   (s h).bind fun q =>
   if q then
    some (b)
   else
    if BQ (b+1) then
     (Cf n g s m) (b+1)
    else none
  else
   GN n 
def E1 (n:Nat) (b:List Vl) (g:Vl→Option Bool):Option Int :=
 Cf n b g n 0
theorem Oa (w0:World) (n:Nat) (B:List (List AV)) (Rw:List RowA) (L:List LoopA) (a0:List Vl) (fa1:FuncId) (ca1:List AV) (a1:Vl→Option Bool) (ha1:∀ (x0:Vl) r,a1 x0=some r→∀ B' rows,B <+: B'→Rw <+: rows→ACalls Tryz.prog w0 fa1 ([.agg (x0.cs)]++ca1) ⟨B',rows,L⟩ fun v s=>v = .val (.bool r)∧s=⟨B',rows,L⟩) (r:Int) (h:E1 n a0 a1=some r) :
  ACalls Tryz.prog w0 225 [.list (a0.map Bo) .none,.clo fa1 ca1] ⟨B,Rw,L⟩ fun x st=>x = .val (.int .i64 r)∧st=⟨B,Rw,L⟩:=by
 rw [E1] at h
 refine hd [.tmp 4] Tryz.func225 Tryz.ntmps225 fun M0 W0 C o t b F d hs=>?_
 simp only [Au]
 have c:=CH (F (.clo fa1 ca1) (by simp))
 refine rg [0,1] hs ?_
 refine Aw (fun e st=>Ck e st B Rw L [] [] [] (GN n  = some r)) ?_ ?_
 ·intro K4 y
  refine rg [0,1,7,8] hs ?_
  apply Ak
  refine AC (fun m e st=>∃ (a:Int),Ck e st B Rw L [(0,true,.list (a0.map Bo) .none),(1,true,.clo fa1 ca1),(7,true,.val (.int .i64 (a0.length:Int))),(8,true,.val (.int .i64 a))] [] [] (Cf n a0 a1 m a=some r)) n ⟨0,([]),Rw,ef hs,ef hs,d,h⟩ ?_
  rintro ml6 e st ⟨a,Xl6,Rl6,rfl,rfl,d,h⟩ Ul6 Vl6
  cases ml6 with
  | zero=>cases h
  | succ ml6 =>
  rw [Cf] at h
  refine AM C o t rfl b d (Ju c d) (Ju c d) ?_
  refine rg [0,1,7,8,9] hs ?_
  apply Ah;intro K8 p
  refine AN h hs (fun hs h=>?_) (fun hs h=>?_)
  rotate_left
  ·refine sx [] hs y ?_
   exact ⟨([]),Rl6,ef hs,ef hs,d,h⟩
  refine sk [0,1,7,8] hs p ?_
  clear p
  apply Ah;intro K10 i
  apply Ak
  refine rg [0,1,5,7,8] hs ?_
  obtain ⟨w,l,h⟩:=bind_some h
  obtain ⟨u,z,j⟩:=AA l
  have k:=AB (f:=Bo) j
  obtain ⟨E,q,h⟩:=bind_some h
  have hs:=Aa k hs
  refine rc 2 [0,1,5,7,8,16] hs ?_;intro K12 g
  refine F7 _ (ha1 w _ q _ _ px d.pre) (hv hs) ?_
  refine ne hs g ?_
  clear g
  refine AN h hs (fun hs h=>?_) (fun hs h=>?_)
  ·refine rg [4] hs ?_
   exact rt h hs b d
  refine sk [0,1,7,8] hs i ?_
  clear i
  obtain ⟨D,h⟩:=Aj h
  refine rl [0,1,7,8] hs (fun e s=>Vl6 ml6 e s (Nat.lt_succ_self _)) ?_
  exact ⟨(a+1),([]),Rl6,ef hs,ef hs,d,h⟩
 ·clear h;rintro e st ⟨Xk3,Rk3,rfl,rfl,d,h⟩
  rw [GN] at h
  refine AM C o t rfl b d (Ju c d) (Ju c d) ?_
  refine rg [4] hs ?_
  exact rt h hs b d
def Dq (n:Nat) (b:List Vl) (g:Vl→Option Bool):Option Bool :=
 (E1 n b g).bind fun h =>
 some (decide (0≤h))
theorem LZ (w0:World) (n:Nat) (B:List (List AV)) (Rw:List RowA) (L:List LoopA) (a0:List Vl) (fa1:FuncId) (ca1:List AV) (a1:Vl→Option Bool) (ha1:∀ (x0:Vl) r,a1 x0=some r→∀ B' rows,B <+: B'→Rw <+: rows→ACalls Tryz.prog w0 fa1 ([.agg (x0.cs)]++ca1) ⟨B',rows,L⟩ fun v s=>v = .val (.bool r)∧s=⟨B',rows,L⟩) (r:Bool) (h:Dq n a0 a1=some r) :
  ACalls Tryz.prog w0 182 [.list (a0.map Bo) .none,.clo fa1 ca1] ⟨B,Rw,L⟩ fun x st=>x = .val (.bool r)∧st=⟨B,Rw,L⟩:=by
 rw [Dq] at h
 refine hd [.tmp 4] Tryz.func182 Tryz.ntmps182 fun M0 W0 p o k b m g hs=>?_
 simp only [Au]
 have e:=CH (m (.clo fa1 ca1) (by simp))
 refine rg [0,1] hs ?_
 obtain ⟨q,f,h⟩:=bind_some h
 refine rc 2 [4] hs ?_;intro K2 c
 refine Ai _ (Oa w0 n _ _ _ a0 fa1 ca1 a1 (fun x0 r j d a l i=>ha1 x0 r j d a (List.IsPrefix.trans px l) (g.pre.trans i)) _ f) (hv hs) ?_
 refine ne hs c ?_
 clear c
 exact rt h hs b g
def Ie (n:Nat)  : Option Int :=
 some ((-1))
def Dn (n:Nat) (h:List ByteArray) (q:ByteArray):Nat→Int→Option Int
 | 0,_=>none
 | m+1,b =>
  if decide (b<(h.length:Int)) then
   (B7 h b).bind fun g =>
   if Cb q g then
    some (b)
   else
    if BQ (b+1) then
     (Dn n h q m) (b+1)
    else none
  else
   Ie n 
def GU (n:Nat) (b:List ByteArray) (g:ByteArray):Option Int :=
 Dn n b g n 0
theorem Qj (w0:World) (n:Nat) (B:List (List AV)) (Rw:List RowA) (L:List LoopA) (a0:List ByteArray) (a1:ByteArray) (r:Int) (h:GU n a0 a1=some r) :
  ACalls Tryz.prog w0 190 [.list (a0.map Lq) .none,.val (.string a1)] ⟨B,Rw,L⟩ fun x st=>x = .val (.int .i64 r)∧st=⟨B,Rw,L⟩:=by
 rw [GU] at h
 refine hd [.tmp 4] Tryz.func190 Tryz.ntmps190 fun M0 W0 u k o b y c hs=>?_
 simp only [Au]
 refine rg [0,1] hs ?_
 refine Aw (fun e st=>Ck e st B Rw L [] [] [] (Ie n  = some r)) ?_ ?_
 ·intro K4 q
  refine rg [0,1,7,8] hs ?_
  apply Ak
  refine AC (fun m e st=>∃ (a:Int),Ck e st B Rw L [(0,true,.list (a0.map Lq) .none),(1,true,.val (.string a1)),(7,true,.val (.int .i64 (a0.length:Int))),(8,true,.val (.int .i64 a))] [] [] (Dn n a0 a1 m a=some r)) n ⟨0,([]),Rw,ef hs,ef hs,c,h⟩ ?_
  rintro ml6 e st ⟨a,Xl6,Rl6,rfl,rfl,c,h⟩ Ul6 Vl6
  cases ml6 with
  | zero=>cases h
  | succ ml6 =>
  rw [Dn] at h
  refine td u k o b c ?_
  refine rg [0,1,7,8,9] hs ?_
  apply Ah;intro K8 l
  refine AN h hs (fun hs h=>?_) (fun hs h=>?_)
  rotate_left
  ·refine sx [] hs q ?_
   exact ⟨([]),Rl6,ef hs,ef hs,c,h⟩
  refine sk [0,1,7,8] hs l ?_
  clear l
  apply Ah;intro K10 d
  apply Ak
  refine rg [0,1,5,7,8] hs ?_
  obtain ⟨w,j,h⟩:=bind_some h
  obtain ⟨p,t,g⟩:=AA j
  have i:=AB (f:=Lq) g
  have hs:=Aa i hs
  refine rg [0,1,5,7,8,16] hs ?_
  refine AN h hs (fun hs h=>?_) (fun hs h=>?_)
  ·refine rg [4] hs ?_
   exact rt h hs b c
  refine sk [0,1,7,8] hs d ?_
  clear d
  obtain ⟨v,h⟩:=Aj h
  refine rl [0,1,7,8] hs (fun e s=>Vl6 ml6 e s (Nat.lt_succ_self _)) ?_
  exact ⟨(a+1),([]),Rl6,ef hs,ef hs,c,h⟩
 ·clear h;rintro e st ⟨Xk3,Rk3,rfl,rfl,c,h⟩
  rw [Ie] at h
  refine td u k o b c ?_
  refine rg [4] hs ?_
  exact rt h hs b c
def BG (n:Nat) (b:List ByteArray) (g:ByteArray):Option Bool :=
 (GU n b g).bind fun h =>
 some (decide (0≤h))
theorem EO (w0:World) (n:Nat) (B:List (List AV)) (Rw:List RowA) (L:List LoopA) (a0:List ByteArray) (a1:ByteArray) (r:Bool) (h:BG n a0 a1=some r) :
  ACalls Tryz.prog w0 131 [.list (a0.map Lq) .none,.val (.string a1)] ⟨B,Rw,L⟩ fun x st=>x = .val (.bool r)∧st=⟨B,Rw,L⟩:=by
 rw [BG] at h
 refine hd [.tmp 4] Tryz.func131 Tryz.ntmps131 fun M0 W0 i f d a g e hs=>?_
 simp only [Au]
 refine rg [0,1] hs ?_
 obtain ⟨j,c,h⟩:=bind_some h
 refine rc 2 [4] hs ?_;intro K2 b
 refine Ai _ (Qj w0 n _ _ _ a0 a1 _ c) (hv hs) ?_
 refine ne hs b ?_
 clear b
 exact rt h hs a e
def Pg (rec:Ty→Vl→Option Bool) (n:Nat) (q:Ty) (g:Vl):Option Bool :=
 (AE n q.fields (fun (h:Int × ByteArray × Int × Ty × List Vl)=>KC n h g)).bind fun b =>
 some (!b)
def QN (rec:Ty→Vl→Option Bool) (n:Nat)  : Option Bool :=
 some (true)
def Ir (rec:Ty→Vl→Option Bool) (n:Nat) (s:Ty) (q:Vl):Nat→Int→Option Bool
 | 0,_=>none
 | m+1,b =>
  if decide (b<(q.fields.length:Int)) then
   (B7 q.fields b).bind fun g =>
   (I2 n s g.1).bind fun h =>
   if !h.2 then
    some (false)
   else
    (rec h.1.2.2.2.1 g.2).bind fun y =>
    if !y then
     some (false)
    else
     if BQ (b+1) then
      (Ir rec n s q m) (b+1)
     else none
  else
   Pg rec n s q 
def Du (rec:Ty→Vl→Option Bool) (n:Nat) (b:Ty) (g:Vl) (h:Bool):Option Bool :=
 if h then
  some ((decide (b.min≤g.int)&&decide (g.int≤b.max))&&(decide (g.scale=b.scale)))
 else
  if decide (b.kind=4) then
   if decide (0<(b.words.length:Int)) then
    (BG n b.words g.text).bind fun s =>
    some (s)
   else
    some (decide (b.min≤(g.text.size:Int))&&decide ((g.text.size:Int)≤b.max))
  else
   if decide (b.kind=5) then
    some (decide (b.min≤(g.text.size:Int))&&decide ((g.text.size:Int)≤b.max))
   else
    if decide (b.kind=8) then
     if decide (b.min≤(g.list.length:Int))&&decide ((g.list.length:Int)≤b.max) then
      (Dq n g.list (fun (x0:Vl)=>KE rec x0 b)).bind fun y36 =>
      some (!y36)
     else
      some (false)
    else
     if decide (b.kind=10) then
      (I2 n b g.text).bind fun q =>
      if q.2 then
       (B7 g.list 0).bind fun x43 =>
       (rec q.1.2.2.2.1 x43).bind fun y =>
       some (y)
      else
       some (false)
     else
      if decide (b.kind=9) then
       Ir rec n b g n 0
      else
       QN rec n 
def TK (rec:Ty→Vl→Option Bool) (n:Nat) (b:Ty) (g:Vl):Option Bool :=
 if !(decide (g.kind=b.kind)) then
  some (false)
 else
  if decide (b.kind=2) then
   Du rec n b g true
  else
   if decide (b.kind=6) then
    Du rec n b g true
   else
    if decide (b.kind=7) then
     Du rec n b g true
    else
     Du rec n b g (decide (b.kind=3))
def Jm:Nat→Ty→Vl→Option Bool
 | 0,_,_=>none
 | n+1,b,g=>TK (Jm n) n b g
def Xl (w0:World) (F:Ty→Vl→Option Bool):Prop:=∀ (B:List (List AV)) (Rw:List RowA) (L:List LoopA) (b:Ty) (g:Vl) (r:Bool),F b g=some r→ACalls Tryz.prog w0 107 [.agg (b.cs),.agg (g.cs)] ⟨B,Rw,L⟩ fun x st=>x = .val (.bool r)∧st=⟨B,Rw,L⟩
theorem Z2 (w0:World) (rec:Ty→Vl→Option Bool) (ih:Xl w0 rec) (n:Nat):Xl w0 (TK rec n):=by
 intro B Rw L a0 a1 r h
 rw [TK] at h
 refine hd [.tmp 4] Tryz.func107 Tryz.ntmps107 fun M0 W0 hN p t a hu c hs=>?_
 simp only [Au]
 refine rg [2,3] hs ?_
 apply Ah;intro K2 af
 refine rg [2,3,15] hs ?_
 refine AN h hs (fun hs h=>?_) (fun hs h=>?_)
 ·refine rg [4] hs ?_
  exact rt h hs a c
 refine sk [2,3] hs af ?_
 clear af
 refine Aw (fun e st=>Ck e st B Rw L [] [a0.cs,a1.cs] [] (QN rec n  = some r)) ?_ ?_
 ·intro K8 ai
  refine rg [2,3,17] hs ?_
  apply Ak
  refine Aw (fun e st=>∃ (d:Bool),Ck e st B Rw L [(2,true,.box B.length 0),(3,true,.box (B.length+1) 0),(17,true,.val (.int .i64 a0.kind)),(18,true,.val (.bool d))] [a0.cs,a1.cs] [] (Du rec n a0 a1 d=some r)) ?_ ?_
  ·intro K12 i
   refine rg [2,3,17,18] hs ?_
   refine AN h hs (fun hs h=>?_) (fun hs h=>?_)
   ·refine sk [2,3,17,18] hs i ?_
    exact ⟨true,([]),Rw,ef hs,ef hs,c,h⟩
   refine rg [2,3,17,18] hs ?_
   refine AN h hs (fun hs h=>?_) (fun hs h=>?_)
   ·refine sk [2,3,17,18] hs i ?_
    exact ⟨true,([]),Rw,ef hs,ef hs,c,h⟩
   refine rg [2,3,17,18] hs ?_
   refine AN h hs (fun hs h=>?_) (fun hs h=>?_)
   ·refine sk [2,3,17,18] hs i ?_
    exact ⟨true,([]),Rw,ef hs,ef hs,c,h⟩
   refine rl [2,3,17,18] hs i ?_
   exact ⟨(decide (a0.kind=3)),([]),Rw,ef hs,ef hs,c,h⟩
  ·clear h;rintro e st ⟨d,Xk11,Rk11,rfl,rfl,c,h⟩
   rw [Du] at h
   refine td hN p t a c ?_
   refine AN h hs (fun hs h=>?_) (fun hs h=>?_)
   ·refine rc 2 [4] hs ?_;intro K20 D
    refine Ai _ (QV w0 _ _ _ a1.int a0.min a0.max) (hv hs) ?_
    refine ne hs D ?_
    clear D
    exact rt h hs a c
   refine rg [2,3,17,37] hs ?_
   refine AN h hs (fun hs h=>?_) (fun hs h=>?_)
   ·apply Ah;intro K23 y
    refine rg [2,3,42] hs ?_
    refine AN h hs (fun hs h=>?_) (fun hs h=>?_)
    ·obtain ⟨aw,Q,h⟩:=bind_some h
     refine rc 2 [4] hs ?_;intro K26 x
     refine Ai _ (EO w0 n _ _ _ a0.words a1.text _ Q) (hv hs) ?_
     refine ne hs x ?_
     clear x
     exact rt h hs a c
    refine sk [2,3] hs y ?_
    clear y
    refine rc 2 [4] hs ?_;intro K28 z
    refine Ai _ (QV w0 _ _ _ (a1.text.size:Int) a0.min a0.max) (hv hs) ?_
    refine ne hs z ?_
    clear z
    exact rt h hs a c
   refine rg [2,3,17,56] hs ?_
   refine AN h hs (fun hs h=>?_) (fun hs h=>?_)
   ·refine rc 2 [4] hs ?_;intro K31 v
    refine Ai _ (QV w0 _ _ _ (a1.text.size:Int) a0.min a0.max) (hv hs) ?_
    refine ne hs v ?_
    clear v
    exact rt h hs a c
   refine rg [2,3,17,66] hs ?_
   refine AN h hs (fun hs h=>?_) (fun hs h=>?_)
   ·apply Ah;intro K34 k
    rcases Bool.eq_false_or_eq_true (decide (a0.min≤(a1.list.length:Int))&&decide ((a1.list.length:Int)≤a0.max)) with hf35 | hf35
    ·replace h:=Ba h hf35
     obtain ⟨ax,ae,h⟩:=bind_some h
     have hs:=Aa hf35 hs
     refine rk 3 [4] hs ?_
     refine Ai _ (QV w0 _ _ _ (a1.list.length:Int) a0.min a0.max) (hv hs) ?_
     refine nc hs ?_
     refine Ai _ (LZ w0 n _ _ _ a1.list 183 [.box B.length 0] (fun (H:Vl)=>KE rec H a0) (fun H r hx B' K G ak=>by exact Zap w0 rec ih _ _ _ H _ a0 (DY G (ef hs)) _ hx) _ ae) (hv hs) ?_
     refine ne hs k ?_
     clear k
     exact rt h hs a c
    ·replace h:=A9 h hf35
     have hs:=Aa hf35 hs
     refine rk 3 [4] hs ?_
     refine Ai _ (QV w0 _ _ _ (a1.list.length:Int) a0.min a0.max) (hv hs) ?_
     refine nc hs ?_
     refine AD ?_
     refine ne hs k ?_
     clear k
     exact rt h hs a c
   refine rg [2,3,17,83] hs ?_
   refine AN h hs (fun hs h=>?_) (fun hs h=>?_)
   ·obtain ⟨ab,Y,h⟩:=bind_some h
    refine rc 2 [3,5,6] hs ?_;intro K39 u
    refine Ai _ (Qg w0 n _ _ _ a0 a1.text _ Y) (hv hs) ?_
    refine ne hs u ?_
    clear u
    apply Ah;intro K41 j
    rcases Bool.eq_false_or_eq_true (ab.2) with hf42 | hf42
    ·replace h:=Ba h hf42
     obtain ⟨aj,am,ap,o,h⟩:=ix Bo h
     have O:(a1.list.map Bo).getD 0 .junk=_:=o
     obtain ⟨au,ag,h⟩:=bind_some h
     have hs:=Aa hf42 hs
     have hs:=Aa o hs
     have hs:=Aa O hs
     refine dk 11 2 1 [4] hs HH ?_
     refine Ai _ (ih _ _ _ ab.1.2.2.2.1 aj _ ag) (hv hs) ?_
     refine dn hs j ?_
     clear j
     exact rt h hs a c
    ·replace h:=A9 h hf42
     have hs:=Aa hf42 hs
     refine dk 11 2 1 [4] hs HH ?_
     refine AD ?_
     refine dn hs j ?_
     clear j
     exact rt h hs a c
   refine rg [2,3,102] hs ?_
   refine AN h hs (fun hs h=>?_) (fun hs h=>?_)
   ·refine Aw (fun e st=>Ck e st B Rw L [(2,true,.box B.length 0),(3,true,.box (B.length+1) 0)] [a0.cs,a1.cs] [] (Pg rec n a0 a1  = some r)) ?_ ?_
    ·intro K49 U
     refine rg [2,3,105,106,107] hs ?_
     apply Ak
     refine AC (fun m e st=>∃ (b:Int),Ck e st B Rw L [(2,true,.box B.length 0),(3,true,.box (B.length+1) 0),(105,true,.list (a1.fields.map BM) .none),(106,true,.val (.int .i64 (a1.fields.length:Int))),(107,true,.val (.int .i64 b))] [a0.cs,a1.cs] [] (Ir rec n a0 a1 m b=some r)) n ⟨0,([]),Rk11,ef hs,ef hs,c,h⟩ ?_
     rintro ml51 e st ⟨b,Xl51,Rl51,rfl,rfl,c,h⟩ Ul51 Vl51
     cases ml51 with
     | zero=>cases h
     | succ ml51 =>
     rw [Ir] at h
     refine td hN p t a c ?_
     refine rg [2,3,105,106,107,108] hs ?_
     apply Ah;intro K53 C
     refine AN h hs (fun hs h=>?_) (fun hs h=>?_)
     rotate_left
     ·refine sx [2,3] hs U ?_
      exact ⟨([]),Rl51,ef hs,ef hs,c,h⟩
     refine sk [2,3,105,106,107] hs C ?_
     clear C
     apply Ah;intro K55 E
     apply Ak
     obtain ⟨q,Z,h⟩:=bind_some h
     obtain ⟨ao,ah,N⟩:=AA Z
     have J:=AB (f:=BM) N
     have hs:=Aa J hs
     refine rg [2,3,8,105,106,107] hs ?_
     obtain ⟨g,ad,h⟩:=bind_some h
     refine rc 2 [2,3,8,9,10,105,106,107] hs ?_;intro K58 F
     refine Ai _ (Qg w0 n _ _ _ a0 q.1 _ ad) (hv hs) ?_
     refine ne hs F ?_
     clear F
     apply Ah;intro K60 l
     rcases Bool.eq_false_or_eq_true (!g.2) with hf61 | hf61
     ·replace h:=Ba h hf61
      have hs:=Aa hf61 hs
      refine rk 2 [2,3,105,106,107,127] hs ?_
      refine AD ?_
      refine ne hs l ?_
      clear l
      refine A4 true ev (ef hs) (fun hb62=>?_) (fun hb62=>by cases hb62)
      refine rg [4] hs ?_
      exact rt h hs a c
     ·replace h:=A9 h hf61
      obtain ⟨av,V,h⟩:=bind_some h
      have hs:=Aa hf61 hs
      refine rk 2 [2,3,105,106,107,127] hs ?_
      refine Ai _ (ih _ _ _ g.1.2.2.2.1 q.2 _ V) (hv hs) ?_
      refine ne hs l ?_
      clear l
      refine AN h hs (fun hs h=>?_) (fun hs h=>?_)
      ·refine rg [4] hs ?_
       exact rt h hs a c
      refine sk [2,3,105,106,107] hs E ?_
      clear E
      obtain ⟨aq,h⟩:=Aj h
      refine rl [2,3,105,106,107] hs (fun e s=>Vl51 ml51 e s (Nat.lt_succ_self _)) ?_
      exact ⟨(b+1),([.val (.string q.1)::(q.2.cs),.val (.int .i64 g.1.1)::(.val (.string g.1.2.1)::(.val (.int .i64 g.1.2.2.1)::((g.1.2.2.2.1.cs)++([.list (g.1.2.2.2.2.map Bo) .none]))))]),Rl51,ef hs,ef hs,c,h⟩
    ·clear h;rintro e st ⟨Xk48,Rk48,rfl,rfl,c,h⟩
     rw [Pg] at h
     refine td hN p t a c ?_
     obtain ⟨ar,aa,h⟩:=bind_some h
     refine rc 2 [4] hs ?_;intro K68 w
     refine Ai _ (B8 w0 n _ _ _ a0.fields 184 [.box (B.length+1) 0] (fun (H:Int × ByteArray × Int × Ty × List Vl)=>KC n H a1) (fun H r hx B' K G ak=>by exact ZS w0 n _ _ _ H _ a1 (DY G (ef hs)) _ hx) _ aa) (hv hs) ?_
     refine ne hs w ?_
     clear w
     exact rt h hs a c
   refine sk [] hs ai ?_
   exact ⟨([]),Rk11,ef hs,ef hs,c,h⟩
 ·clear h;rintro e st ⟨Xk7,Rk7,rfl,rfl,c,h⟩
  rw [QN] at h
  refine td hN p t a c ?_
  refine rg [4] hs ?_
  exact rt h hs a c
theorem Yr (w0:World):∀ n:Nat,Xl w0 (Jm n)
 | 0=>fun _ _ _ _ _ _ h=>(nomatch h)
 | n+1=>Z2 w0 (Jm n) (Yr w0 n) n
def JM (n:Nat) (q:Ty) (b:Vl):Option Bool :=
 (EX n b).bind fun h =>
 if decide (h=0) then
  (Jm n q b).bind fun g =>
  some (g)
 else
  some (false)
theorem X0 (w0:World) (hT:Lib.Utf8Tabs 0 1 w0) (n:Nat) (B:List (List AV)) (Rw:List RowA) (L:List LoopA) (a0:Ty) (a1:Vl) (r:Bool) (h:JM n a0 a1=some r) :
  ACalls Tryz.prog w0 59 [.agg (a0.cs),.agg (a1.cs)] ⟨B,Rw,L⟩ fun x st=>x = .val (.bool r)∧st=⟨B,Rw,L⟩:=by
 rw [JM] at h
 refine hd [.tmp 4] Tryz.func59 Tryz.ntmps59 fun M0 W0 l g f a k e hs=>?_
 simp only [Au]
 refine rg [2,3] hs ?_
 apply Ah;intro K2 b
 obtain ⟨i,c,h⟩:=bind_some h
 rcases Bool.eq_false_or_eq_true (decide (i=0)) with hf4 | hf4
 ·replace h:=Ba h hf4
  obtain ⟨j,d,h⟩:=bind_some h
  have hs:=Aa hf4 hs
  refine rk 3 [4] hs ?_
  refine Ai _ (KX w0 hT n _ _ _ a1 _ c) (hv hs) ?_
  refine nc hs ?_
  refine Ai _ (Yr w0 n _ _ _ a0 a1 _ d) (hv hs) ?_
  refine ne hs b ?_
  clear b
  exact rt h hs a e
 ·replace h:=A9 h hf4
  have hs:=Aa hf4 hs
  refine rk 3 [4] hs ?_
  refine Ai _ (KX w0 hT n _ _ _ a1 _ c) (hv hs) ?_
  refine nc hs ?_
  refine AD ?_
  refine ne hs b ?_
  clear b
  exact rt h hs a e
def DL (b:Int × ByteArray × Int × Ty × List Vl) (g:Int × ByteArray × Int × Ty × List Vl):Bool :=
 (Cb b.2.1 g.2.1)||(decide (b.1=g.1))
theorem XZ (w0:World) (B:List (List AV)) (Rw:List RowA) (L:List LoopA) (a0:Int × ByteArray × Int × Ty × List Vl) (la1:Nat) (a1:Int × ByteArray × Int × Ty × List Vl) (hla1:B[la1]? = some (.val (.int .i64 a1.1)::(.val (.string a1.2.1)::(.val (.int .i64 a1.2.2.1)::((a1.2.2.2.1.cs)++([.list (a1.2.2.2.2.map Bo) .none])))))) (r:Bool) (h:DL a0 a1=r) :
  ACalls Tryz.prog w0 227 [.agg (.val (.int .i64 a0.1)::(.val (.string a0.2.1)::(.val (.int .i64 a0.2.2.1)::((a0.2.2.2.1.cs)++([.list (a0.2.2.2.2.map Bo) .none]))))),.box la1 0] ⟨B,Rw,L⟩ fun x st=>x = .val (.bool r)∧st=⟨B,Rw,L⟩:=by
 rw [DL] at h
 refine hd [.tmp 3] Tryz.func227 Tryz.ntmps227 fun M0 W0 g e c a f d hs=>?_
 simp only [Au]
 have b:=(Ag.1 hla1).1
 have hs:=Aa (An hla1) hs
 refine rg [1,2] hs ?_
 refine rg [3] hs ?_
 exact rT h hs a d
theorem VH (w0:World) (B:List (List AV)) (Rw:List RowA) (L:List LoopA) (a0:Int × ByteArray × Int × Ty × List Vl) (la1:Nat) (a1:Int × ByteArray × Int × Ty × List Vl) (hla1:B[la1]? = some (.val (.int .i64 a1.1)::(.val (.string a1.2.1)::(.val (.int .i64 a1.2.2.1)::((a1.2.2.2.1.cs)++([.list (a1.2.2.2.2.map Bo) .none])))))) :
  ACalls Tryz.prog w0 227 [.agg (.val (.int .i64 a0.1)::(.val (.string a0.2.1)::(.val (.int .i64 a0.2.2.1)::((a0.2.2.2.1.cs)++([.list (a0.2.2.2.2.map Bo) .none]))))),.box la1 0] ⟨B,Rw,L⟩ fun x st=>x = .val (.bool (DL a0 a1))∧st=⟨B,Rw,L⟩:=XZ w0 B Rw L a0 la1 a1 hla1 _ rfl
def MU (n:Nat) (g:Ty) (h:Int):Option Int :=
 (B7 g.fields h).bind fun b =>
 if b.2.1.size≤maxLen then
  if !(E5 b.2.1) then
   some (12)
  else
   if !(decide (1≤b.1)&&decide (b.1≤9999)) then
    some (2)
   else
    if 0≤0∧0≤h∧h≤(g.fields.length:Int) then
     (AE n (g.fields.take h.toNat) (fun (s:Int × ByteArray × Int × Ty × List Vl)=>some (DL s b))).bind fun q =>
     if q then
      some (7)
     else
      if (!(decide (1≤b.2.2.1)&&decide (b.2.2.1≤3)))||((decide (g.kind=10))&&(!(decide (b.2.2.1=1)))) then
       some (11)
      else
       if (decide (b.2.2.1=3))&&(decide ((b.2.2.2.2.length:Int)=0)) then
        some (4)
       else
        if (decide (1<(b.2.2.2.2.length:Int)))||((!(decide (b.2.2.1=3)))&&(decide (0<(b.2.2.2.2.length:Int)))) then
         some (3)
        else
         some (0)
    else none
 else none
theorem Zat (w0:World) (n:Nat) (B:List (List AV)) (Rw:List RowA) (L:List LoopA) (a0:Ty) (a1:Int) (r:Int) (h:MU n a0 a1=some r) :
  ACalls Tryz.prog w0 195 [.agg (a0.cs),.val (.int .i64 a1)] ⟨B,Rw,L⟩ fun x st=>x = .val (.int .i64 r)∧st=⟨B,Rw,L⟩:=by
 rw [MU] at h
 refine hd [.tmp 4] Tryz.func195 Tryz.ntmps195 fun M0 W0 y u w a C d hs=>?_
 simp only [Au]
 refine rg [1,2] hs ?_
 obtain ⟨x3,o,h⟩:=bind_some h
 obtain ⟨s,q,j⟩:=AA o
 have g:=AB (f:=Cm) j
 have hs:=Aa g hs
 refine rg [1,2,5] hs ?_
 apply Ah;intro K4 k
 apply Ak
 obtain ⟨l,h⟩:=Aj h
 refine rc 2 [1,2,5,11] hs ?_;intro K5 i
 refine Ai _ (RE w0 _ _ _ x3.2.1 l) (hv hs) ?_
 refine ne hs i ?_
 clear i
 refine AN h hs (fun hs h=>?_) (fun hs h=>?_)
 ·refine rg [4] hs ?_
  exact rt h hs a d
 refine rc 2 [1,2,5,16] hs ?_;intro K9 e
 refine Ai _ (QV w0 _ _ _ x3.1 1 9999) (hv hs) ?_
 refine ne hs e ?_
 clear e
 refine AN h hs (fun hs h=>?_) (fun hs h=>?_)
 ·refine rg [4] hs ?_
  exact rt h hs a d
 obtain ⟨p,h⟩:=Aj h
 obtain ⟨t,hy14,h⟩:=bind_some h
 refine rc 2 [2,5,21] hs ?_;intro K12 b
 refine Ai _ (B8 w0 n _ _ _ (a0.fields.take a1.toNat) 227 [.box (B.length+1) 0] (fun (x0:Int × ByteArray × Int × Ty × List Vl)=>some (DL x0 x3)) (fun x0 r hx z m hB' v=>by cases hx;exact VH w0 _ _ _ x0 _ x3 (DY hB' (ef hs))) _ hy14) (hv hs) ?_
 refine ne hs b ?_
 clear b
 refine AN h hs (fun hs h=>?_) (fun hs h=>?_)
 ·refine rg [4] hs ?_
  exact rt h hs a d
 refine rc 2 [5,28] hs ?_;intro K17 c
 refine Ai _ (QV w0 _ _ _ x3.2.2.1 1 3) (hv hs) ?_
 refine ne hs c ?_
 clear c
 refine AN h hs (fun hs h=>?_) (fun hs h=>?_)
 ·refine rg [4] hs ?_
  exact rt h hs a d
 refine rg [5,43] hs ?_
 refine AN h hs (fun hs h=>?_) (fun hs h=>?_)
 ·refine rg [4] hs ?_
  exact rt h hs a d
 refine rg [53] hs ?_
 refine AN h hs (fun hs h=>?_) (fun hs h=>?_)
 ·refine rg [4] hs ?_
  exact rt h hs a d
 refine sk [] hs k ?_
 clear k
 refine rg [4] hs ?_
 exact rt h hs a d
def Iw  (b:Bool):Int :=
 if b then
  3
 else
  0
def KJ (b:Ty) (g:Lim):Int :=
 if (!g.bounds)&&((!(decide (b.min=0)))||(!(decide (b.max=0)))) then
  Iw  true
 else
  if (!g.scale)&&(!(decide (b.scale=0))) then
   Iw  true
  else
   if (!g.text)&&(decide (0<(b.words.length:Int))) then
    Iw  true
   else
    if (!g.list)&&(decide (0<(b.elem.length:Int))) then
     Iw  true
    else
     Iw  ((!g.fields)&&(decide (0<(b.fields.length:Int))))
theorem ZbP (w0:World) (B:List (List AV)) (Rw:List RowA) (L:List LoopA) (a0:Ty) (a1:Lim) (r:Int) (h:KJ a0 a1=r) :
  ACalls Tryz.prog w0 193 [.agg (a0.cs),.agg (.val (.string a1.name)::(.val (.int .i64 a1.low)::(.val (.int .i64 a1.high)::(.val (.bool a1.bounds)::(.val (.bool a1.scale)::(.val (.bool a1.text)::(.val (.bool a1.list)::([.val (.bool a1.fields)]))))))))] ⟨B,Rw,L⟩ fun x st=>x = .val (.int .i64 r)∧st=⟨B,Rw,L⟩:=by
 rw [KJ] at h
 refine hd [.tmp 4] Tryz.func193 Tryz.ntmps193 fun M0 W0 j i g a k d hs=>?_
 simp only [Au]
 refine rg [2,3] hs ?_
 apply Ah;intro K2 f
 apply Ak
 refine Aw (fun e st=>∃ (b:Bool),Ck e st B Rw L [(5,true,.val (.bool b))] [a0.cs,.val (.string a1.name)::(.val (.int .i64 a1.low)::(.val (.int .i64 a1.high)::(.val (.bool a1.bounds)::(.val (.bool a1.scale)::(.val (.bool a1.text)::(.val (.bool a1.list)::([.val (.bool a1.fields)])))))))] [] (Iw  b=r)) ?_ ?_
 ·intro K5 c
  refine rg [2,3,5] hs ?_
  refine AN h hs (fun hs h=>?_) (fun hs h=>?_)
  ·refine sk [5] hs c ?_
   exact ⟨true,([]),Rw,ef hs,ef hs,d,h⟩
  refine rg [2,3,5] hs ?_
  refine AN h hs (fun hs h=>?_) (fun hs h=>?_)
  ·refine sk [5] hs c ?_
   exact ⟨true,([]),Rw,ef hs,ef hs,d,h⟩
  refine rg [2,3,5] hs ?_
  refine AN h hs (fun hs h=>?_) (fun hs h=>?_)
  ·refine sk [5] hs c ?_
   exact ⟨true,([]),Rw,ef hs,ef hs,d,h⟩
  refine rg [2,3,5] hs ?_
  refine AN h hs (fun hs h=>?_) (fun hs h=>?_)
  ·refine sk [5] hs c ?_
   exact ⟨true,([]),Rw,ef hs,ef hs,d,h⟩
  refine rl [5] hs c ?_
  exact ⟨((!a1.fields)&&(decide (0<(a0.fields.length:Int)))),([]),Rw,ef hs,ef hs,d,h⟩
 ·clear h;rintro e st ⟨b,Xk4,Rk4,rfl,rfl,d,h⟩
  rw [Iw] at h
  refine td j i g a d ?_
  refine AN h hs (fun hs h=>?_) (fun hs h=>?_)
  ·refine rg [4] hs ?_
   exact rT h hs a d
  refine sk [] hs f ?_
  clear f
  refine rg [4] hs ?_
  exact rT h hs a d
theorem ZX (w0:World) (B:List (List AV)) (Rw:List RowA) (L:List LoopA) (a0:Ty) (a1:Lim) :
  ACalls Tryz.prog w0 193 [.agg (a0.cs),.agg (.val (.string a1.name)::(.val (.int .i64 a1.low)::(.val (.int .i64 a1.high)::(.val (.bool a1.bounds)::(.val (.bool a1.scale)::(.val (.bool a1.text)::(.val (.bool a1.list)::([.val (.bool a1.fields)]))))))))] ⟨B,Rw,L⟩ fun x st=>x = .val (.int .i64 (KJ a0 a1))∧st=⟨B,Rw,L⟩:=ZbP w0 B Rw L a0 a1 _ rfl
def Iq  : ((List Lim)) :=
 [Lim.mk ((⟨#[]⟩:ByteArray)) 0 0 false false false false false,Lim.mk ((⟨#[98,111,111,108]⟩:ByteArray)) 0 0 false false false false false,Lim.mk ((⟨#[105,110,116]⟩:ByteArray)) ((-999999999999999)) 999999999999999 true false false false false,Lim.mk ((⟨#[100,101,99,105,109,97,108]⟩:ByteArray)) ((-999999999999999)) 999999999999999 true true false false false,Lim.mk ((⟨#[116,101,120,116]⟩:ByteArray)) 0 1024 true false true false false,Lim.mk ((⟨#[98,121,116,101,115]⟩:ByteArray)) 0 1024 true false false false false,Lim.mk ((⟨#[100,97,116,101]⟩:ByteArray)) ((-719162)) 2932896 true false false false false,Lim.mk ((⟨#[116,105,109,101]⟩:ByteArray)) ((-62135596800000)) 253402300799999 true false false false false,Lim.mk ((⟨#[108,105,115,116]⟩:ByteArray)) 0 256 true false false true false,Lim.mk ((⟨#[114,101,99,111,114,100]⟩:ByteArray)) 0 0 false false false false true,Lim.mk ((⟨#[118,97,114,105,97,110,116]⟩:ByteArray)) 0 0 false false false false true]
theorem Zag (w0:World) (B:List (List AV)) (Rw:List RowA) (L:List LoopA)  (r:(List Lim)) (h:Iq  = r) :
  ACalls Tryz.prog w0 192 [] ⟨B,Rw,L⟩ fun x st=>x = .agg (r.flatMap fun x=>(Xk x).cells)∧st=⟨B,Rw,L⟩:=by
 rw [Iq] at h
 refine hd [.cell 0 185] Tryz.func192 Tryz.ntmps192 fun M0 W0 f d b a e c hs=>?_
 simp only [Au]
 refine rg [0] hs ?_
 refine rg [0] (al hs) ?_
 exact rT h hs a c
theorem YJ (w0:World) (B:List (List AV)) (Rw:List RowA) (L:List LoopA)  :
  ACalls Tryz.prog w0 192 [] ⟨B,Rw,L⟩ fun x st=>x = .agg ((Iq ).flatMap fun x=>(Xk x).cells)∧st=⟨B,Rw,L⟩:=Zag w0 B Rw L  _ rfl
def Gx (b:ByteArray):Vl :=
 Vl.mk 4 0 0 b ([]) ([])
theorem Zcn (w0:World) (B:List (List AV)) (Rw:List RowA) (L:List LoopA) (a0:ByteArray) (r:Vl) (h:Gx a0=r) :
  ACalls Tryz.prog w0 168 [.val (.string a0)] ⟨B,Rw,L⟩ fun x st=>x = .agg (r.cs)∧st=⟨B,Rw,L⟩:=by
 rw [Gx] at h
 refine hd [.cell 2 46] Tryz.func168 Tryz.ntmps168 fun M0 W0 f d b a e c hs=>?_
 simp only [Au]
 refine rg [0,2] hs ?_
 refine rg [2] hs ?_
 exact rT h hs a c
theorem U1 (w0:World) (B:List (List AV)) (Rw:List RowA) (L:List LoopA) (a0:ByteArray) :
  ACalls Tryz.prog w0 168 [.val (.string a0)] ⟨B,Rw,L⟩ fun x st=>x = .agg ((Gx a0).cs)∧st=⟨B,Rw,L⟩:=Zcn w0 B Rw L a0 _ rfl
def LO (n:Nat)  : Option Int :=
 some (0)
def F2 (n:Nat) (h:Ty):Nat→Int→Option Int
 | 0,_=>none
 | m+1,b =>
  if decide (b<(h.words.length:Int)) then
   (B7 h.words b).bind fun g =>
   (EX n (Gx g)).bind fun s =>
   if !(decide (s=0)) then
    some (s)
   else
    if decide (0<b) then
     if BQ (b-1) then
      (B7 h.words (b-1)).bind fun q =>
      if Cb g q then
       some (7)
      else
       if BQ (b-1) then
        if WT g q then
         some (24)
        else
         if BQ (b+1) then
          (F2 n h m) (b+1)
         else none
       else none
     else none
    else
     if BQ (b+1) then
      (F2 n h m) (b+1)
     else none
  else
   LO n 
def MJ (n:Nat) (b:Ty):Option Int :=
 if (!(decide (b.min=0)))||(!(decide (b.max=0))) then
  some (3)
 else
  if decide (64<(b.words.length:Int)) then
   some (9)
  else
   F2 n b n 0
theorem Z7 (w0:World) (hT:Lib.Utf8Tabs 0 1 w0) (n:Nat) (B:List (List AV)) (Rw:List RowA) (L:List LoopA) (a0:Ty) (r:Int) (h:MJ n a0=some r) :
  ACalls Tryz.prog w0 194 [.agg (a0.cs)] ⟨B,Rw,L⟩ fun x st=>x = .val (.int .i64 r)∧st=⟨B,Rw,L⟩:=by
 rw [MJ] at h
 refine hd [.tmp 2] Tryz.func194 Tryz.ntmps194 fun M0 W0 H v z b V i hs=>?_
 simp only [Au]
 refine rg [1] hs ?_
 apply Ah;intro K2 C
 apply Ak
 refine rg [1,6] hs ?_
 refine AN h hs (fun hs h=>?_) (fun hs h=>?_)
 ·refine rg [2] hs ?_
  exact rt h hs b i
 refine rg [1,15] hs ?_
 refine AN h hs (fun hs h=>?_) (fun hs h=>?_)
 ·refine rg [2] hs ?_
  exact rt h hs b i
 refine sk [1] hs C ?_
 clear C
 refine Aw (fun e st=>Ck e st B Rw L [] [a0.cs] [] (LO n  = some r)) ?_ ?_
 ·intro K11 u
  refine rg [1,21,22,23] hs ?_
  apply Ak
  refine AC (fun m e st=>∃ (a:Int),Ck e st B Rw L [(1,true,.box B.length 0),(21,true,.list (a0.words.map Lq) .none),(22,true,.val (.int .i64 (a0.words.length:Int))),(23,true,.val (.int .i64 a))] [a0.cs] [] (F2 n a0 m a=some r)) n ⟨0,([]),Rw,ef hs,ef hs,i,h⟩ ?_
  rintro ml13 e st ⟨a,Xl13,Rl13,rfl,rfl,i,h⟩ Ul13 Vl13
  cases ml13 with
  | zero=>cases h
  | succ ml13 =>
  rw [F2] at h
  refine td H v z b i ?_
  refine rg [1,21,22,23,24] hs ?_
  apply Ah;intro K15 j
  refine AN h hs (fun hs h=>?_) (fun hs h=>?_)
  rotate_left
  ·refine sx [] hs u ?_
   exact ⟨([]),Rl13,ef hs,ef hs,i,h⟩
  refine sk [1,21,22,23] hs j ?_
  clear j
  apply Ah;intro K17 c
  apply Ak
  obtain ⟨w,y,h⟩:=bind_some h
  obtain ⟨G,E,q⟩:=AA y
  have o:=AB (f:=Lq) q
  have hs:=Aa o hs
  refine rg [1,3,4,21,22,23] hs ?_
  apply Ah;intro K20 k
  obtain ⟨U,t,h⟩:=bind_some h
  refine rc 3 [1,3,4,5,21,22,23] hs ?_;intro K21 l
  refine Ai _ (U1 w0 _ _ _ w) (hv hs) ?_
  refine nc hs ?_
  refine Ai _ (KX w0 hT n _ _ _ (Gx w) _ t) (hv hs) ?_
  refine ne hs l ?_
  clear l
  refine rg [1,3,4,5,21,22,23,32] hs ?_
  refine AN h hs (fun hs h=>?_) (fun hs h=>?_)
  ·refine rg [2] hs ?_
   exact rt h hs b i
  refine sk [1,3,4,21,22,23] hs k ?_
  clear k
  apply Ah;intro K26 d
  apply Ah;intro K27 g
  rcases Bool.eq_false_or_eq_true (decide (0<a)) with hf28 | hf28
  ·replace h:=Ba h hf28
   obtain ⟨J,h⟩:=Aj h
   obtain ⟨Q,F,D,p,h⟩:=ix Lq h
   have hs:=Aa hf28 hs
   have hs:=Aa p hs
   refine rl [1,3,4,21,22,23,45] hs g ?_
   clear g
   refine AN h hs (fun hs h=>?_) (fun hs h=>?_)
   ·refine rg [2] hs ?_
    exact rt h hs b i
   refine sk [1,3,4,21,22,23] hs d ?_
   clear d
   obtain ⟨O,h⟩:=Aj h
   refine rg [1,21,22,23,57] hs ?_
   refine AN h hs (fun hs h=>?_) (fun hs h=>?_)
   ·refine rg [2] hs ?_
    exact rt h hs b i
   refine sk [1,21,22,23] hs c ?_
   clear c
   obtain ⟨N,h⟩:=Aj h
   refine rl [1,21,22,23] hs (fun e s=>Vl13 ml13 e s (Nat.lt_succ_self _)) ?_
   exact ⟨(a+1),([]),Rl13,ef hs,ef hs,i,h⟩
  ·replace h:=A9 h hf28
   have hs:=Aa hf28 hs
   refine rl [1,3,4,21,22,23,45] hs g ?_
   clear g
   refine A4 false ev (ef hs) (fun hb38=>by cases hb38) (fun hb38=>?_)
   refine sk [1,3,4,21,22,23] hs d ?_
   clear d
   refine rg [1,21,22,23,57] hs ?_
   refine A4 false ev (ef hs) (fun hb40=>by cases hb40) (fun hb40=>?_)
   refine sk [1,21,22,23] hs c ?_
   clear c
   obtain ⟨K,h⟩:=Aj h
   refine rl [1,21,22,23] hs (fun e s=>Vl13 ml13 e s (Nat.lt_succ_self _)) ?_
   exact ⟨(a+1),([]),Rl13,ef hs,ef hs,i,h⟩
 ·clear h;rintro e st ⟨Xk10,Rk10,rfl,rfl,i,h⟩
  rw [LO] at h
  refine td H v z b i ?_
  refine rg [2] hs ?_
  exact rt h hs b i
def Sv (n:Nat)  : Option Int :=
 some (0)
def Il (n:Nat) (h:Ty):Nat→Int→Option Int
 | 0,_=>none
 | m+1,b =>
  if decide (b<(h.fields.length:Int)) then
   (MU n h b).bind fun g =>
   if !(decide (g=0)) then
    some (g)
   else
    if BQ (b+1) then
     (Il n h m) (b+1)
    else none
  else
   Sv n 
def Iy (n:Nat) (g:Ty) (b:Bool):Option Int :=
 if b then
  some (4)
 else
  if (decide (g.kind=8))&&(decide (1<(g.elem.length:Int))) then
   some (3)
  else
   if decide (64<(g.fields.length:Int)) then
    some (9)
   else
    Il n g n 0
def KB (n:Nat) (b:Ty):Option Int :=
 if (decide (b.kind=8))&&(decide ((b.elem.length:Int)=0)) then
  Iy n b true
 else
  Iy n b ((decide (b.kind=10))&&(decide ((b.fields.length:Int)=0)))
def M9 (n:Nat) (g:Ty) (b:Bool):Option Int :=
 if b then
  some (2)
 else
  KB n g 
def QU (n:Nat) (b:Ty):Option Int :=
 if !(decide (1≤b.kind)&&decide (b.kind≤10)) then
  some (11)
 else
  (B7 (Iq ) b.kind).bind fun g =>
  if !(decide ((KJ b g)=0)) then
   some (KJ b g)
  else
   if (decide (b.kind=4))&&(decide (0<(b.words.length:Int))) then
    (MJ n b).bind fun h =>
    if !(decide (h=0)) then
     some (h)
    else
     KB n b 
   else
    if g.bounds&&(((decide (b.max<b.min))||(decide (b.min<g.low)))||(decide (g.high<b.max))) then
     M9 n b true
    else
     M9 n b (g.scale&&(!(decide (0≤b.scale)&&decide (b.scale≤12))))
theorem Zdh (w0:World) (hT:Lib.Utf8Tabs 0 1 w0) (n:Nat) (B:List (List AV)) (Rw:List RowA) (L:List LoopA) (a0:Ty) (r:Int) (h:QU n a0=some r) :
  ACalls Tryz.prog w0 135 [.agg (a0.cs)] ⟨B,Rw,L⟩ fun x st=>x = .val (.int .i64 r)∧st=⟨B,Rw,L⟩:=by
 rw [QU] at h
 refine hd [.tmp 2] Tryz.func135 Tryz.ntmps135 fun M0 W0 H o p a hu g hs=>?_
 simp only [Au]
 refine rg [1] hs ?_
 apply Ah;intro K2 U
 refine rc 2 [1,11] hs ?_;intro K3 G
 refine Ai _ (QV w0 _ _ _ a0.kind 1 10) (hv hs) ?_
 refine ne hs G ?_
 clear G
 refine AN h hs (fun hs h=>?_) (fun hs h=>?_)
 ·have l:=hs.1
  refine rg [2] hs ?_
  exact rt h hs a g
 have l:=hs.1
 refine sk [1] hs U ?_
 clear U
 apply Ah;intro K6 F
 obtain ⟨b,Y,h⟩:=bind_some h
 obtain ⟨aa,v,O⟩:=AA Y
 have d:=Ht (f:=fun x=>(Xk x).cells) 8 (fun _=>rfl) O
 have N:(Iq ).length=11:=rfl
 first | rw [N] at v | simp only [List.length_cons,List.length_nil,Nat.reduceAdd,Nat.zero_add] at v
 simp only [FP,FN,Fz,FB,FK,Fa,Ea,Eb,FA,Db,Da,Ed,Ek,Ef,JZ] at d
 apply Ho HH [4,5] [1,3] kr (fun s=>∃ (X:List (List AV)) (rows:List RowA),s=⟨B++([a0.cs]++X),rows,L⟩) 3 (B.length+1)
 ·simp +decide only [go_sem,Nat.reduceAdd]
 ·rintro s ⟨X,rows,rfl⟩
  refine ⟨2,?_⟩
  rw [Am];simp +decide only [go_sem,Nat.reduceAdd,Eh,l,d]
  have hs:=Aa d hs
  (repeat' apply Aa)<;>first | refine Ai _ (YJ w0 _ _ _ ) (hv hs) ?_ | exact cl
  rw [Am];simp +decide only [go_sem,Nat.reduceAdd,l,d]
  (repeat' apply Aa)<;>first | rfl | exact cl
 ·refine Good.mk [4] kr ⟨[],_,by first | rfl | simp only [List.append_nil,List.nil_append]⟩ ?_ ?_
  ·intro h;exact absurd h (by decide)
  ·intro i hi;simp only [List.mem_cons,List.not_mem_nil,or_false] at hi
   subst hi
   ·apply BU rfl rfl ev
    ·simp +decide only [go_sem,Nat.reduceAdd,DU,l,d]
     (repeat' apply Aa)<;>first | rfl | exact cl
    ·simp +decide only [go_sem,Nat.reduceAdd,l,d]
     refine Good.mk [5] kr ⟨_,_,by first | rfl | simp only [List.append_nil,List.nil_append]⟩ ?_ ?_
     ·intro h;exact absurd h (by decide)
     ·intro i hi;simp only [List.mem_cons,List.not_mem_nil,or_false] at hi
      subst hi
      ·apply BU rfl rfl ev
       ·simp +decide only [go_sem,Nat.reduceAdd,DU,l,d]
        (repeat' apply Aa)<;>first | rfl | exact cl
       ·simp +decide only [go_sem,Nat.reduceAdd,l,d]
        refine Good.mk [] kr ⟨_,_,by first | rfl | simp only [List.append_nil,List.nil_append]⟩ ?_ ?_
        ·intro _;apply CO [1,3];first | (simp +decide only [go_sem,Nat.reduceAdd,l,d];done) | (simp +decide only [go_sem,Nat.reduceAdd,l,d];rfl)
        ·intro i hi;cases hi
 simp +decide only [go_sem,Nat.reduceAdd,l,d]
 (repeat' apply Aa)<;>first | refine F _ _ ?_ | exact cl
 clear F
 apply Ah;intro K8 K
 have hs:=Aa d hs
 refine rc 2 [1,3,4] hs ?_;intro K9 E
 refine Ai _ (ZX w0 _ _ _ a0 b) (hv hs) ?_
 refine ne hs E ?_
 clear E
 refine rg [1,3,4,20] hs ?_
 refine AN h hs (fun hs h=>?_) (fun hs h=>?_)
 ·refine rg [2] hs ?_
  exact rt h hs a g
 refine sk [1,3] hs K ?_
 clear K
 refine Aw (fun e st=>Ck e st B Rw L [(1,true,.box B.length 0)] [a0.cs,.val (.string b.name)::(.val (.int .i64 b.low)::(.val (.int .i64 b.high)::(.val (.bool b.bounds)::(.val (.bool b.scale)::(.val (.bool b.text)::(.val (.bool b.list)::([.val (.bool b.fields)])))))))] [] (KB n a0  = some r)) ?_ ?_
 ·intro K15 u
  apply Ak
  refine rg [1,3,22] hs ?_
  refine AN h hs (fun hs h=>?_) (fun hs h=>?_)
  ·obtain ⟨ad,J,h⟩:=bind_some h
   refine rc 2 [1,5] hs ?_;intro K18 w
   refine Ai _ (Z7 w0 hT n _ _ _ a0 _ J) (hv hs) ?_
   refine ne hs w ?_
   clear w
   refine rg [1,5,35] hs ?_
   refine AN h hs (fun hs h=>?_) (fun hs h=>?_)
   ·refine rg [2] hs ?_
    exact rt h hs a g
   refine sk [1] hs u ?_
   exact ⟨([]),Rw,ef hs,ef hs,g,h⟩
  refine Aw (fun e st=>∃ (j:Bool),Ck e st B Rw L [(1,true,.box B.length 0),(37,true,.val (.bool j))] [a0.cs,.val (.string b.name)::(.val (.int .i64 b.low)::(.val (.int .i64 b.high)::(.val (.bool b.bounds)::(.val (.bool b.scale)::(.val (.bool b.text)::(.val (.bool b.list)::([.val (.bool b.fields)])))))))] [] (M9 n a0 j=some r)) ?_ ?_
  ·intro K25 q
   refine rg [1,3,37] hs ?_
   refine AN h hs (fun hs h=>?_) (fun hs h=>?_)
   ·refine sk [1,37] hs q ?_
    exact ⟨true,([]),Rw,ef hs,ef hs,g,h⟩
   refine rk 2 [1,37] hs ?_
   refine H5 _ (fun _=>QV w0 _ _ _ a0.scale 0 12) (hv hs) ?_
   refine ne hs q ?_
   exact ⟨(b.scale&&(!(decide (0≤a0.scale)&&decide (a0.scale≤12)))),([]),Rw,ef hs,ef hs,g,h⟩
  ·clear h;rintro e st ⟨j,Xk24,Rk24,rfl,rfl,g,h⟩
   rw [M9] at h
   refine td H o p a g ?_
   refine AN h hs (fun hs h=>?_) (fun hs h=>?_)
   ·refine rg [2] hs ?_
    exact rt h hs a g
   refine sk [1] hs u ?_
   exact ⟨([]),Rk24,ef hs,ef hs,g,h⟩
 ·clear h;rintro e st ⟨Xk14,Rk14,rfl,rfl,g,h⟩
  rw [KB] at h
  refine td H o p a g ?_
  apply Ah;intro K30 C
  apply Ak
  refine Aw (fun e st=>∃ (k:Bool),Ck e st B Rw L [(1,true,.box B.length 0),(69,true,.val (.bool k))] [a0.cs,.val (.string b.name)::(.val (.int .i64 b.low)::(.val (.int .i64 b.high)::(.val (.bool b.bounds)::(.val (.bool b.scale)::(.val (.bool b.text)::(.val (.bool b.list)::([.val (.bool b.fields)])))))))] [] (Iy n a0 k=some r)) ?_ ?_
  ·intro K33 t
   refine rg [1,69] hs ?_
   refine AN h hs (fun hs h=>?_) (fun hs h=>?_)
   ·refine sk [1,69] hs t ?_
    exact ⟨true,([]),Rk14,ef hs,ef hs,g,h⟩
   refine rl [1,69] hs t ?_
   exact ⟨((decide (a0.kind=10))&&(decide ((a0.fields.length:Int)=0))),([]),Rk14,ef hs,ef hs,g,h⟩
  ·clear h;rintro e st ⟨k,Xk32,Rk32,rfl,rfl,g,h⟩
   rw [Iy] at h
   refine td H o p a g ?_
   refine AN h hs (fun hs h=>?_) (fun hs h=>?_)
   ·refine rg [2] hs ?_
    exact rt h hs a g
   refine rg [1,88] hs ?_
   refine AN h hs (fun hs h=>?_) (fun hs h=>?_)
   ·refine rg [2] hs ?_
    exact rt h hs a g
   refine rg [1,98] hs ?_
   refine AN h hs (fun hs h=>?_) (fun hs h=>?_)
   ·refine rg [2] hs ?_
    exact rt h hs a g
   refine sk [1] hs C ?_
   clear C
   refine Aw (fun e st=>Ck e st B Rw L [] [a0.cs,.val (.string b.name)::(.val (.int .i64 b.low)::(.val (.int .i64 b.high)::(.val (.bool b.bounds)::(.val (.bool b.scale)::(.val (.bool b.text)::(.val (.bool b.list)::([.val (.bool b.fields)])))))))] [] (Sv n  = some r)) ?_ ?_
   ·intro K46 Q
    refine rg [1,105,106] hs ?_
    apply Ak
    refine AC (fun m e st=>∃ (c:Int),Ck e st B Rw L [(1,true,.box B.length 0),(105,true,.val (.int .i64 (a0.fields.length:Int))),(106,true,.val (.int .i64 c))] [a0.cs,.val (.string b.name)::(.val (.int .i64 b.low)::(.val (.int .i64 b.high)::(.val (.bool b.bounds)::(.val (.bool b.scale)::(.val (.bool b.text)::(.val (.bool b.list)::([.val (.bool b.fields)])))))))] [] (Il n a0 m c=some r)) n ⟨0,([]),Rk32,ef hs,ef hs,g,h⟩ ?_
    rintro ml48 e st ⟨c,Xl48,Rl48,rfl,rfl,g,h⟩ Ul48 Vl48
    cases ml48 with
    | zero=>cases h
    | succ ml48 =>
    rw [Il] at h
    refine td H o p a g ?_
    refine rg [1,105,106,107] hs ?_
    apply Ah;intro K50 D
    refine AN h hs (fun hs h=>?_) (fun hs h=>?_)
    rotate_left
    ·refine sx [] hs Q ?_
     exact ⟨([]),Rl48,ef hs,ef hs,g,h⟩
    refine sk [1,105,106] hs D ?_
    clear D
    apply Ah;intro K52 z
    apply Ak
    refine rg [1,6,105,106] hs ?_
    obtain ⟨ab,V,h⟩:=bind_some h
    refine rc 2 [1,7,105,106] hs ?_;intro K54 y
    refine Ai _ (Zat w0 n _ _ _ a0 c _ V) (hv hs) ?_
    refine ne hs y ?_
    clear y
    refine rg [1,7,105,106,113] hs ?_
    refine AN h hs (fun hs h=>?_) (fun hs h=>?_)
    ·refine rg [2] hs ?_
     exact rt h hs a g
    refine sk [1,105,106] hs z ?_
    clear z
    obtain ⟨Z,h⟩:=Aj h
    refine rl [1,105,106] hs (fun e s=>Vl48 ml48 e s (Nat.lt_succ_self _)) ?_
    exact ⟨(c+1),([]),Rl48,ef hs,ef hs,g,h⟩
   ·clear h;rintro e st ⟨Xk45,Rk45,rfl,rfl,g,h⟩
    rw [Sv] at h
    refine td H o p a g ?_
    refine rg [2] hs ?_
    exact rt h hs a g
def Ip (rec:Ty→Int→Int→Option (Int × Int)) (n:Nat)  (pla2_k18:Int):Option (Int × Int) :=
 some ((0,pla2_k18))
def Bv (rec:Ty→Int→Int→Option (Int × Int)) (n:Nat) (q:Ty) (y:Int) (h:(List Ty)):Nat→Int→Int→Option (Int × Int)
 | 0,_,_=>none
 | m+1,b,pla2_l22 =>
  if decide (b<(h.length:Int)) then
   (B7 h b).bind fun x28 =>
   if BQ (y+1) then
    (rec x28 (y+1) pla2_l22).bind fun g =>
    if !(decide (g.1=0)) then
     some ((g.1,g.2))
    else
     if decide (q.kind=9) then
      (B7 q.fields b).bind fun s =>
      if decide (s.2.2.1=3) then
       (B7 s.2.2.2.2 0).bind fun x40 =>
       (JM n x28 x40).bind fun y41 =>
       if !y41 then
        some ((18,g.2))
       else
        if BQ (b+1) then
         (Bv rec n q y h m) (b+1) g.2
        else none
      else
       if BQ (b+1) then
        (Bv rec n q y h m) (b+1) g.2
       else none
     else
      if BQ (b+1) then
       (Bv rec n q y h m) (b+1) g.2
      else none
   else none
  else
   Ip rec n pla2_l22
def MY (rec:Ty→Int→Int→Option (Int × Int)) (n:Nat) (h:Ty) (s:Int) (b:Int):Option (Int × Int) :=
 if decide (b=0) then
  some ((9,b))
 else
  if decide (8<s) then
   some ((23,b))
  else
   if BQ (b-1) then
    (QU n h).bind fun g =>
    if !(decide (g=0)) then
     some ((g,b-1))
    else
     (MS n h).bind fun q =>
     Bv rec n h s q n 0 (b-1)
   else none
def GB:Nat→Ty→Int→Int→Option (Int × Int)
 | 0,_,_,_=>none
 | n+1,g,b,h=>MY (GB n) n g b h
def Sz (w0:World) (F:Ty→Int→Int→Option (Int × Int)):Prop:=∀ (B:List (List AV)) (Rw:List RowA) (L:List LoopA) (h:Ty) (b:Int) (la2:Nat) (g:Int) (hla2:B[la2]? = some ([.val (.int .i64 g)])) (r:Int × Int),F h b g=some r→ACalls Tryz.prog w0 80 [.agg (h.cs),.val (.int .i64 b),.box la2 0] ⟨B,Rw,L⟩ fun x st=>x = .val (.int .i64 r.1)∧st=⟨(B.set la2 [.val (.int .i64 r.2)]),Rw,L⟩
theorem Xm (w0:World) (hT:Lib.Utf8Tabs 0 1 w0) (rec:Ty→Int→Int→Option (Int × Int)) (ih:Sz w0 rec) (n:Nat):Sz w0 (MY rec n):=by
 intro B Rw L a0 a1 C a2 b r h
 rw [MY] at h
 refine hd [.tmp 6] Tryz.func80 Tryz.ntmps80 fun M0 W0 hN Y ab a hu x hs=>?_
 simp only [Au]
 have ag:=(Ag.1 b).1
 have hs:=Aa (An b) hs
 refine rg [1,2,3] hs ?_
 apply Ah;intro K2 af
 apply Ak
 refine rg [1,2,3,11] hs ?_
 refine AN h hs (fun hs h=>?_) (fun hs h=>?_)
 ·have l:=hs.1
  refine rg [6] hs ?_
  exact rt h hs a x
 have l:=hs.1
 refine rg [1,2,3,16] hs ?_
 refine AN h hs (fun hs h=>?_) (fun hs h=>?_)
 ·have j:=hs.1
  refine rg [6] hs ?_
  exact rt h hs a x
 have j:=hs.1
 refine sk [1,2,3] hs af ?_
 clear af
 obtain ⟨ar,h⟩:=Aj h
 refine rg [1,2,3] hs ?_
 apply Ah;intro K11 D
 obtain ⟨ay,Z,h⟩:=bind_some h
 refine rc 2 [1,2,3,7] hs ?_;intro K12 F
 refine Ai _ (Zdh w0 hT n _ _ _ a0 _ Z) (hv hs) ?_
 refine ne hs F ?_
 clear F
 refine rg [1,2,3,7,27] hs ?_
 refine AN h hs (fun hs h=>?_) (fun hs h=>?_)
 ·have c:=hs.1
  refine rg [6] hs ?_
  apply A2;simp +decide only [go_sem,Nat.reduceAdd,An b,l,j,c]
  have hgt:=Option.some.inj h;subst hgt
  first | refine DT (Ap a ev) HN x.pre ev ⟨?_,rfl⟩ | refine Fg (Ap a ev) HN x.pre ev ⟨?_,rfl⟩
  first | rfl | (simp +decide only [go_sem,Nat.reduceAdd,An b,l,j,c];done) | (simp +decide only [go_sem,Nat.reduceAdd,Vl.cs,Ty.cs,An b,l,j,c];done)
 have c:=hs.1
 refine sk [1,2,3] hs D ?_
 clear D
 refine Aw (fun e st=>∃ (k:Int) (Xk18:List (List AV)) (Rk18:List RowA),e=[]∧st=⟨(B.set C ([.val (.int .i64 k)]))++([a0.cs]++Xk18),Rk18,L⟩∧Owns Rw Rk18 []∧Ip rec n k=some r) ?_ ?_
 ·intro K19 U
  obtain ⟨O,Q,h⟩:=bind_some h
  refine rc 2 [1,2,3,30,31,32] hs ?_;intro K20 H
  refine Ai _ (ZaD w0 n _ _ _ a0 _ Q) (hv hs) ?_
  refine ne hs H ?_
  clear H
  apply Ak
  refine AC (fun m e st=>∃ (d:Int) (g:Int) (Xl22:List (List AV)) (Rl22:List RowA),e=[(1,true,.val (.int .i64 a1)),(2,true,.box C 0),(3,true,.box B.length 0),(30,true,.list (O.map HF) .none),(31,true,.val (.int .i64 (O.length:Int))),(32,true,.val (.int .i64 d))]∧st=⟨(B.set C ([.val (.int .i64 g)]))++([a0.cs]++Xl22),Rl22,L⟩∧Owns Rw Rl22 []∧Bv rec n a0 a1 O m d g=some r) n ⟨0,(a2-1),([]),Rw,ef hs,ef hs,x,h⟩ ?_
  rintro ml22 e st ⟨d,g,Xl22,Rl22,rfl,rfl,x,h⟩ Ul22 Vl22
  cases ml22 with
  | zero=>cases h
  | succ ml22 =>
  rw [Bv] at h
  refine AM hN Y ab HN (Ap a ev) x ow ow ?_
  refine rg [1,2,3,30,31,32,33] hs ?_
  apply Ah;intro K24 G
  refine AN h hs (fun hs h=>?_) (fun hs h=>?_)
  rotate_left
  ·have t:=hs.1
   refine sx [] hs U ?_
   exact ⟨g,([]),Rl22,ef hs,ef hs,x,h⟩
  have t:=hs.1
  refine sk [1,2,3,30,31,32] hs G ?_
  clear G
  apply Ah;intro K26 u
  apply Ak
  obtain ⟨z,V,h⟩:=bind_some h
  obtain ⟨aj,ai,K⟩:=AA V
  have i:=AB (f:=HF) K
  have hs:=Aa i hs
  refine rg [1,2,3,8,9,30,31,32] hs ?_
  apply Ah;intro K29 E
  obtain ⟨aq,h⟩:=Aj h
  obtain ⟨N,aa,h⟩:=bind_some h
  refine rc 2 [1,2,3,8,9,10,30,31,32] hs ?_;intro K30 J
  refine BB _ (ih _ _ _ z (a1+1) C g (ef hs) _ aa) (hv hs) ?_;rintro _ _ ⟨rfl,rfl⟩
  refine ne hs J ?_
  clear J
  refine rg [1,2,3,8,9,10,30,31,32,43] hs ?_
  refine AN h hs (fun hs h=>?_) (fun hs h=>?_)
  ·have q:=hs.1
   refine rg [6] hs ?_
   apply A2;simp +decide only [go_sem,Nat.reduceAdd,An b,l,j,c,t,i,q]
   have hgt:=Option.some.inj h;subst hgt
   first | refine DT (Ap a ev) HN x.pre ev ⟨?_,rfl⟩ | refine Fg (Ap a ev) HN x.pre ev ⟨?_,rfl⟩
   first | rfl | (simp +decide only [go_sem,Nat.reduceAdd,An b,l,j,c,t,i,q];done) | (simp +decide only [go_sem,Nat.reduceAdd,Vl.cs,Ty.cs,An b,l,j,c,t,i,q];done)
  have q:=hs.1
  refine sk [1,2,3,8,9,30,31,32] hs E ?_
  clear E
  apply Ah;intro K36 v
  rcases Bool.eq_false_or_eq_true (decide (a0.kind=9)) with hf37 | hf37
  ·replace h:=Ba h hf37
   obtain ⟨ae,ak,ap,p,h⟩:=ix Cm h
   rcases Bool.eq_false_or_eq_true (decide (ae.2.2.1=3)) with hf39 | hf39
   ·replace h:=Ba h hf39
    obtain ⟨ah,am,ao,o,h⟩:=ix Bo h
    have w:(ae.2.2.2.2.map Bo).getD 0 .junk=_:=o
    obtain ⟨ax,ad,h⟩:=bind_some h
    have hs:=Aa hf37 hs
    have hs:=Aa p hs
    have hs:=Aa hf39 hs
    have hs:=Aa o hs
    have hs:=Aa w hs
    refine dk 25 2 1 [1,2,3,30,31,32,69] hs HH ?_
    refine Ai _ (X0 w0 hT n _ _ _ z ah _ ad) (hv hs) ?_
    refine dn hs v ?_
    clear v
    refine AN h hs (fun hs h=>?_) (fun hs h=>?_)
    ·have y:=hs.1
     refine rg [6] hs ?_
     apply A2;simp +decide only [go_sem,Nat.reduceAdd,An b,l,j,c,t,i,q,hf37,p,hf39,o,w,y]
     have hgt:=Option.some.inj h;subst hgt
     first | refine DT (Ap a ev) HN x.pre ev ⟨?_,rfl⟩ | refine Fg (Ap a ev) HN x.pre ev ⟨?_,rfl⟩
     first | rfl | (simp +decide only [go_sem,Nat.reduceAdd,An b,l,j,c,t,i,q,hf37,p,hf39,o,w,y];done) | (simp +decide only [go_sem,Nat.reduceAdd,Vl.cs,Ty.cs,An b,l,j,c,t,i,q,hf37,p,hf39,o,w,y];done)
    have y:=hs.1
    refine sk [1,2,3,30,31,32] hs u ?_
    clear u
    obtain ⟨av,h⟩:=Aj h
    refine rl [1,2,3,30,31,32] hs (fun e s=>Vl22 ml22 e s (Nat.lt_succ_self _)) ?_
    exact ⟨(d+1),N.2,([z.cs]),Rl22,ef hs,ef hs,x,h⟩
   ·replace h:=A9 h hf39
    have hs:=Aa hf37 hs
    have hs:=Aa p hs
    have hs:=Aa hf39 hs
    refine dk 25 2 1 [1,2,3,30,31,32,69] hs HH ?_
    refine AD ?_
    refine dn hs v ?_
    clear v
    refine A4 false ev (ef hs) (fun hb45=>by cases hb45) (fun hb45=>?_)
    refine sk [1,2,3,30,31,32] hs u ?_
    clear u
    obtain ⟨aw,h⟩:=Aj h
    refine rl [1,2,3,30,31,32] hs (fun e s=>Vl22 ml22 e s (Nat.lt_succ_self _)) ?_
    exact ⟨(d+1),N.2,([z.cs]),Rl22,ef hs,ef hs,x,h⟩
  ·replace h:=A9 h hf37
   have hs:=Aa hf37 hs
   refine dk 25 2 1 [1,2,3,30,31,32,69] hs HH ?_
   refine AD ?_
   refine dn hs v ?_
   clear v
   refine A4 false ev (ef hs) (fun hb47=>by cases hb47) (fun hb47=>?_)
   refine sk [1,2,3,30,31,32] hs u ?_
   clear u
   obtain ⟨au,h⟩:=Aj h
   refine rl [1,2,3,30,31,32] hs (fun e s=>Vl22 ml22 e s (Nat.lt_succ_self _)) ?_
   exact ⟨(d+1),N.2,([z.cs]),Rl22,ef hs,ef hs,x,h⟩
 ·clear h;rintro e st ⟨k,Xk18,Rk18,rfl,rfl,x,h⟩
  rw [Ip] at h
  refine AM hN Y ab HN (Ap a ev) x ow ow ?_
  refine rg [6] hs ?_
  apply A2;simp +decide only [go_sem,Nat.reduceAdd,An b,l,j,c]
  have hgt:=Option.some.inj h;subst hgt
  first | refine DT (Ap a ev) HN x.pre ev ⟨?_,rfl⟩ | refine Fg (Ap a ev) HN x.pre ev ⟨?_,rfl⟩
  first | rfl | (simp +decide only [go_sem,Nat.reduceAdd,An b,l,j,c];done) | (simp +decide only [go_sem,Nat.reduceAdd,Vl.cs,Ty.cs,An b,l,j,c];done)
theorem T9 (w0:World) (hT:Lib.Utf8Tabs 0 1 w0):∀ n:Nat,Sz w0 (GB n)
 | 0=>fun _ _ _ _ _ _ _ _ _ h=>(nomatch h)
 | n+1=>Xm w0 hT (GB n) (T9 w0 hT n) n
def Im  : List (Nat × Vl)→Int→Option Int
 | [],b1_r6 =>
  some (b1_r6)
 | p_r6::rest,b1_r6 =>
  if BQ (b1_r6+1) then
   (Im  rest) (b1_r6+1)
  else none
def M4 (b:Vl):Option Int :=
 if b.depth<4611686018427387904∧b.wide=true then
  Im  (EQ 1 b) 0
 else none
theorem WS (w0:World) (B:List (List AV)) (Rw:List RowA) (L:List LoopA) (a0:Vl) (r:Int) (h:M4 a0=some r) :
  ACalls Tryz.prog w0 77 [.agg (a0.cs)] ⟨B,Rw,L⟩ fun x st=>x = .val (.int .i64 r)∧st=⟨B,Rw,L⟩:=by
 rw [M4] at h
 refine hd [.tmp 2] Tryz.func77 Tryz.ntmps77 fun M0 W0 w m t b J c hs=>?_
 simp only [Au]
 refine rg [1] hs ?_
 refine rg [1,3] hs ?_
 apply Ah;intro K3 e
 refine rc 2 [3,5] hs ?_;intro K4 f
 refine BB _ (OQ w0 _ _ _ a0) (hv hs) ?_;rintro _ _ ⟨rfl,rfl⟩
 refine ne hs f ?_
 clear f
 apply Ak
 obtain ⟨p,h⟩:=Aj h
 refine R7 (I3 a0) (fun st=>st.boxes[(B.length+2)]? = some a0.cs) (fun i st=>∃ (a:Int) (Rr6:List RowA),st=⟨B++([a0.cs,[.val (.int .i64 a)],a0.cs]),Rr6,L⟩∧Owns Rw Rr6 []∧Im  ((EQ 1 a0).drop i) a=some r) (fun _ _=>False) ev ev (Md w0 a0 p _) (fun x q=>P9 a0 x q) (by decide) ?_ ⟨0,Rw,ef hs,c,h⟩ (fun _ _ h=>h.elim) ?_ ?_ ?_
 ·rintro i st j ⟨a,Rr6,rfl,c,h⟩ _ _;simp +decide [St.push]
 ·rintro i F ⟨XB,XR,XL⟩ x M1 W1 l j D hX C o g q z K u
  obtain ⟨v,n,rfl,E⟩:=P6 a0 i x q
  (try simp only at hX)
  subst hX
  obtain ⟨a,Rr6,rfl,c,h⟩:=C
  rw [UN n,Im] at h
  have d:=c
  simp only [St.ext,St.push,List.append_assoc,List.append_nil]
  refine D3 (Dz [3] _) ?_ (Bm _ _)
  apply Br;simp +decide only [go_sem,Nat.reduceAdd]
  (repeat' apply Aa)<;>first | refine u _ _ (by simp [St.ext,St.push]) (fun G k=>?_) | exact cl
  clear u
  dsimp only [St.ext,St.push]
  apply Ak
  obtain ⟨y,h⟩:=Aj h
  apply Ao 1 [3]
  rw [Am];simp +decide only [go_sem,Nat.reduceAdd]
  (repeat' apply Aa)<;>first | refine k _ _ _ ⟨⟨B++[a0.cs,[.val (.int .i64 (a+1))],a0.cs],Rr6,L⟩,[],by first | rfl | (simp only [List.append_assoc,List.append_nil,List.cons_append,List.nil_append];done),⟨by simp,by first | exact Nat.le_refl _ | (have:=c.len;simp;omega),rfl⟩,rfl,⟨(a+1),Rr6,ef hs,c,h⟩,?_⟩ | exact cl
  exact .inl rfl
 ·rintro s j ⟨XB,XR,XL⟩ hXR ⟨a,Rr6,rfl,c,h⟩ _ _
  simp only at hXR
  subst hXR
  rw [List.drop_eq_nil_of_le (by rw [L9];exact Nat.le_refl _),Im] at h
  simp only [St.ext,St.push,List.append_assoc,List.append_nil]
  (repeat' apply Aa)<;>first | refine e _ _ ?_ | exact cl
  clear e
  refine Rq (bs:=[a0.cs,[.val (.int .i64 a)],a0.cs]) w m t rfl b c ow ow ?_
  refine rg [2] hs ?_
  exact rt h hs b c
 ·rintro H s j X hX h;exact h.elim
def Dj (rec:Ty→Option Int) (n:Nat) (g:Int→Int→Option Int) (b:Int) (h:Int):Option Int :=
 if BQ (b+1) then
  g h (b+1)
 else none
def EH (rec:Ty→Option Int) (n:Nat)  (b:Int):Option Int :=
 some ((if 4097<b then 4097 else b))
def Bd (rec:Ty→Option Int) (n:Nat) (q:Ty):Nat→Int→Int→Option Int
 | 0,_,_=>none
 | m+1,g,b =>
  if decide (b<(q.fields.length:Int)) then
   (B7 q.fields b).bind fun h =>
   if decide (h.2.2.1=1) then
    (rec h.2.2.2.1).bind fun s =>
    if BQ (g+s) then
     Dj rec n (Bd rec n q m) b (g+s)
    else none
   else
    if decide (h.2.2.1=3) then
     (B7 h.2.2.2.2 0).bind fun x39 =>
     (M4 x39).bind fun y =>
     if BQ (g+y) then
      Dj rec n (Bd rec n q m) b (g+y)
     else none
    else
     Dj rec n (Bd rec n q m) b g
  else
   EH rec n g
def HL (rec:Ty→Option Int) (n:Nat) (b:Ty):Option Int :=
 if decide (b.kind=8) then
  if decide (0<b.min) then
   (B7 b.elem 0).bind fun s =>
   (rec s).bind fun g =>
   if BQ (b.min*g) then
    if BQ (1+(b.min*g)) then
     EH rec n (1+(b.min*g))
    else none
   else none
  else
   EH rec n 1
 else
  if decide (b.kind=10) then
   (B7 b.fields 0).bind fun q =>
   (rec q.2.2.2.1).bind fun h =>
   if BQ (1+h) then
    EH rec n (1+h)
   else none
  else
   if decide (b.kind=9) then
    Bd rec n b n 1 0
   else
    EH rec n 1
def Ax:Nat→Ty→Option Int
 | 0,_=>none
 | n+1,b=>HL (Ax n) n b
def MA (w0:World) (F:Ty→Option Int):Prop:=∀ (B:List (List AV)) (Rw:List RowA) (L:List LoopA) (b:Ty) (r:Int),F b=some r→ACalls Tryz.prog w0 136 [.agg (b.cs)] ⟨B,Rw,L⟩ fun x st=>x = .val (.int .i64 r)∧st=⟨B,Rw,L⟩
theorem RA (w0:World) (rec:Ty→Option Int) (ih:MA w0 rec) (n:Nat):MA w0 (HL rec n):=by
 intro B Rw L a0 r h
 rw [HL] at h
 refine hd [.tmp 2] Tryz.func136 Tryz.ntmps136 fun M0 W0 U u z g hu i hs=>?_
 simp only [Au]
 refine rg [1] hs ?_
 refine rg [1,3] hs ?_
 refine Aw (fun e st=>∃ (j:Int),Ck e st B Rw L [(3,true,.val (.int .i64 j))] [a0.cs] [] (EH rec n j=some r)) ?_ ?_
 ·intro K5 o
  refine rg [1,3,7] hs ?_
  apply Ak
  refine rg [1,3,7,8] hs ?_
  refine AN h hs (fun hs h=>?_) (fun hs h=>?_)
  ·refine rg [1,3,12] hs ?_
   refine AN h hs (fun hs h=>?_) (fun hs h=>?_)
   ·obtain ⟨ah,ae,K,q,h⟩:=ix HF h
    have w:(a0.elem.map HF).getD 0 .junk=_:=q
    obtain ⟨O,H,h⟩:=bind_some h
    obtain ⟨aj,h⟩:=Aj h
    obtain ⟨ai,h⟩:=Aj h
    have hs:=Aa q hs
    have hs:=Aa w hs
    refine dk 10 2 1 [3] hs HH ?_
    refine Ai _ (ih _ _ _ ah _ H) (hv hs) ?_
    refine dn hs o ?_
    exact ⟨(1+(a0.min*O)),([]),Rw,ef hs,ef hs,i,h⟩
   refine sk [3] hs o ?_
   exact ⟨1,([]),Rw,ef hs,ef hs,i,h⟩
  refine rg [1,3,7,23] hs ?_
  refine AN h hs (fun hs h=>?_) (fun hs h=>?_)
  ·obtain ⟨V,Y,N,l,h⟩:=ix Cm h
   have y:(a0.fields.map Cm).getD 0 .junk=_:=l
   obtain ⟨aa,G,h⟩:=bind_some h
   obtain ⟨ak,h⟩:=Aj h
   have hs:=Aa l hs
   have hs:=Aa y hs
   refine rk 2 [3] hs ?_
   refine Ai _ (ih _ _ _ V.2.2.2.1 _ G) (hv hs) ?_
   refine ne hs o ?_
   exact ⟨(1+aa),([]),Rw,ef hs,ef hs,i,h⟩
  refine rg [1,3,33] hs ?_
  refine AN h hs (fun hs h=>?_) (fun hs h=>?_)
  ·refine rg [3,36,37,38] hs ?_
   apply Ak
   refine AC (fun m e st=>∃ (b:Int) (a:Int),Ck e st B Rw L [(3,true,.val (.int .i64 b)),(36,true,.list (a0.fields.map Cm) .none),(37,true,.val (.int .i64 (a0.fields.length:Int))),(38,true,.val (.int .i64 a))] [a0.cs] [] (Bd rec n a0 m b a=some r)) n ⟨1,0,([]),Rw,ef hs,ef hs,i,h⟩ ?_
   rintro ml23 e st ⟨b,a,Xl23,Rl23,rfl,rfl,i,h⟩ Ul23 Vl23
   cases ml23 with
   | zero=>cases h
   | succ ml23 =>
   rw [Bd] at h
   refine td U u z g i ?_
   refine rg [3,36,37,38,39] hs ?_
   apply Ah;intro K25 t
   refine AN h hs (fun hs h=>?_) (fun hs h=>?_)
   rotate_left
   ·refine sx [3] hs o ?_
    exact ⟨b,([]),Rl23,ef hs,ef hs,i,h⟩
   refine sk [3,36,37,38] hs t ?_
   clear t
   refine Aw (fun e st=>∃ (d:Int),Ck e st B Rw L [(3,true,.val (.int .i64 d)),(36,true,.list (a0.fields.map Cm) .none),(37,true,.val (.int .i64 (a0.fields.length:Int))),(38,true,.val (.int .i64 a))] [a0.cs] [] (Dj rec n (Bd rec n a0 ml23) a d=some r)) ?_ ?_
   ·intro K29 k
    apply Ak
    obtain ⟨c,F,h⟩:=bind_some h
    obtain ⟨Z,ab,v⟩:=AA F
    have C:=AB (f:=Cm) v
    have hs:=Aa C hs
    refine rg [3,5,36,37,38] hs ?_
    refine rg [3,5,36,37,38,43] hs ?_
    apply Ak
    refine rg [3,5,36,37,38,43,44] hs ?_
    refine AN h hs (fun hs h=>?_) (fun hs h=>?_)
    ·obtain ⟨af,E,h⟩:=bind_some h
     obtain ⟨ap,h⟩:=Aj h
     refine rk 2 [3,36,37,38] hs ?_
     refine Ai _ (ih _ _ _ c.2.2.2.1 _ E) (hv hs) ?_
     refine ne hs k ?_
     exact ⟨(b+af),([.val (.int .i64 c.1)::(.val (.string c.2.1)::(.val (.int .i64 c.2.2.1)::((c.2.2.2.1.cs)++([.list (c.2.2.2.2.map Bo) .none]))))]),Rl23,ef hs,ef hs,i,h⟩
    refine rg [3,5,36,37,38,51] hs ?_
    refine AN h hs (fun hs h=>?_) (fun hs h=>?_)
    ·obtain ⟨J,ag,Q,p,h⟩:=ix Bo h
     have x:(c.2.2.2.2.map Bo).getD 0 .junk=_:=p
     obtain ⟨ad,D,h⟩:=bind_some h
     obtain ⟨ao,h⟩:=Aj h
     have hs:=Aa p hs
     have hs:=Aa x hs
     refine rk 2 [3,36,37,38] hs ?_
     refine Ai _ (WS w0 _ _ _ J _ D) (hv hs) ?_
     refine ne hs k ?_
     exact ⟨(b+ad),([.val (.int .i64 c.1)::(.val (.string c.2.1)::(.val (.int .i64 c.2.2.1)::((c.2.2.2.1.cs)++([.list (c.2.2.2.2.map Bo) .none]))))]),Rl23,ef hs,ef hs,i,h⟩
    refine sk [3,36,37,38] hs k ?_
    exact ⟨b,([.val (.int .i64 c.1)::(.val (.string c.2.1)::(.val (.int .i64 c.2.2.1)::((c.2.2.2.1.cs)++([.list (c.2.2.2.2.map Bo) .none]))))]),Rl23,ef hs,ef hs,i,h⟩
   ·clear h;rintro e st ⟨d,Xk28,Rk28,rfl,rfl,i,h⟩
    rw [Dj] at h
    refine td U u z g i ?_
    obtain ⟨am,h⟩:=Aj h
    refine rl [3,36,37,38] hs (fun e s=>Vl23 ml23 e s (Nat.lt_succ_self _)) ?_
    exact ⟨d,(a+1),([]),Rk28,ef hs,ef hs,i,h⟩
  refine sk [3] hs o ?_
  exact ⟨1,([]),Rw,ef hs,ef hs,i,h⟩
 ·clear h;rintro e st ⟨j,Xk4,Rk4,rfl,rfl,i,h⟩
  rw [EH] at h
  refine td U u z g i ?_
  refine rg [2] hs ?_
  exact rt h hs g i
theorem Ov (w0:World):∀ n:Nat,MA w0 (Ax n)
 | 0=>fun _ _ _ _ _ h=>(nomatch h)
 | n+1=>RA w0 (Ax n) (Ov w0 n) n
def H3 (rec:Ty→Option Int) (n:Nat)  (b:Int):Option Int :=
 some (b)
def BK (rec:Ty→Option Int) (n:Nat) (q:Ty):Nat→Int→Int→Option Int
 | 0,_,_=>none
 | m+1,g,b =>
  if decide (b<(q.fields.length:Int)) then
   (B7 q.fields b).bind fun s =>
   (rec s.2.2.2.1).bind fun h =>
   if BQ (b+1) then
    (BK rec n q m) ((if g<h then h else g)) (b+1)
   else none
  else
   H3 rec n g
def GQ (rec:Ty→Option Int) (n:Nat) (g:Ty) (b:Int):Option Int :=
 BK rec n g n b 0
def CX (rec:Ty→Option Int) (n:Nat) (q:Ty):Nat→Int→Int→Option Int
 | 0,_,_=>none
 | m+1,g,b =>
  if decide (b<(q.elem.length:Int)) then
   (B7 q.elem b).bind fun s =>
   (rec s).bind fun h =>
   if BQ (b+1) then
    (CX rec n q m) ((if g<h then h else g)) (b+1)
   else none
  else
   GQ rec n q g
def FO (rec:Ty→Option Int) (n:Nat) (b:Ty):Option Int :=
 (Ax n b).bind fun g =>
 CX rec n b n g 0
def AZ:Nat→Ty→Option Int
 | 0,_=>none
 | n+1,b=>FO (AZ n) n b
def I8 (w0:World) (F:Ty→Option Int):Prop:=∀ (B:List (List AV)) (Rw:List RowA) (L:List LoopA) (b:Ty) (r:Int),F b=some r→ACalls Tryz.prog w0 81 [.agg (b.cs)] ⟨B,Rw,L⟩ fun x st=>x = .val (.int .i64 r)∧st=⟨B,Rw,L⟩
theorem PI (w0:World) (rec:Ty→Option Int) (ih:I8 w0 rec) (n:Nat):I8 w0 (FO rec n):=by
 intro B Rw L a0 r h
 rw [FO] at h
 refine hd [.tmp 2] Tryz.func81 Tryz.ntmps81 fun M0 W0 O o p g hu k hs=>?_
 simp only [Au]
 refine rg [1] hs ?_
 obtain ⟨y3,Y,h⟩:=bind_some h
 refine rc 2 [1,3] hs ?_;intro K2 N
 refine Ai _ (Ov w0 n _ _ _ a0 _ Y) (hv hs) ?_
 refine ne hs N ?_
 clear N
 refine Aw (fun e st=>∃ (i:Int),Ck e st B Rw L [(1,true,.box B.length 0),(3,true,.val (.int .i64 i))] [a0.cs] [] (GQ rec n a0 i=some r)) ?_ ?_
 ·intro K6 U
  refine rg [1,3,11,12,13] hs ?_
  apply Ak
  refine AC (fun m e st=>∃ (c:Int) (d:Int),Ck e st B Rw L [(1,true,.box B.length 0),(3,true,.val (.int .i64 c)),(11,true,.list (a0.elem.map HF) .none),(12,true,.val (.int .i64 (a0.elem.length:Int))),(13,true,.val (.int .i64 d))] [a0.cs] [] (CX rec n a0 m c d=some r)) n ⟨y3,0,([]),Rw,ef hs,ef hs,k,h⟩ ?_
  rintro ml8 e st ⟨c,d,Xl8,Rl8,rfl,rfl,k,h⟩ Ul8 Vl8
  cases ml8 with
  | zero=>cases h
  | succ ml8 =>
  rw [CX] at h
  refine td O o p g k ?_
  refine rg [1,3,11,12,13,14] hs ?_
  apply Ah;intro K10 v
  refine AN h hs (fun hs h=>?_) (fun hs h=>?_)
  rotate_left
  ·refine sx [1,3] hs U ?_
   exact ⟨c,([]),Rl8,ef hs,ef hs,k,h⟩
  refine sk [1,3,11,12,13] hs v ?_
  clear v
  apply Ah;intro K12 t
  apply Ak
  obtain ⟨H,K,h⟩:=bind_some h
  obtain ⟨aa,Z,z⟩:=AA K
  have y:=AB (f:=HF) z
  have hs:=Aa y hs
  refine rg [1,3,5,11,12,13] hs ?_
  obtain ⟨F,G,h⟩:=bind_some h
  refine rk 2 [1,3,11,12,13] hs ?_
  refine Ai _ (ih _ _ _ H _ G) (hv hs) ?_
  refine ne hs t ?_
  clear t
  obtain ⟨ad,h⟩:=Aj h
  refine rl [1,3,11,12,13] hs (fun e s=>Vl8 ml8 e s (Nat.lt_succ_self _)) ?_
  exact ⟨((if c<F then F else c)),(d+1),([H.cs]),Rl8,ef hs,ef hs,k,h⟩
 ·clear h;rintro e st ⟨i,Xk5,Rk5,rfl,rfl,k,h⟩
  rw [GQ] at h
  refine td O o p g k ?_
  refine Aw (fun e st=>∃ (j:Int),Ck e st B Rw L [(3,true,.val (.int .i64 j))] [a0.cs] [] (H3 rec n j=some r)) ?_ ?_
  ·intro K19 C
   refine rg [3,23,24,25] hs ?_
   apply Ak
   refine AC (fun m e st=>∃ (a:Int) (b:Int),Ck e st B Rw L [(3,true,.val (.int .i64 a)),(23,true,.list (a0.fields.map Cm) .none),(24,true,.val (.int .i64 (a0.fields.length:Int))),(25,true,.val (.int .i64 b))] [a0.cs] [] (BK rec n a0 m a b=some r)) n ⟨i,0,([]),Rk5,ef hs,ef hs,k,h⟩ ?_
   rintro ml21 e st ⟨a,b,Xl21,Rl21,rfl,rfl,k,h⟩ Ul21 Vl21
   cases ml21 with
   | zero=>cases h
   | succ ml21 =>
   rw [BK] at h
   refine td O o p g k ?_
   refine rg [3,23,24,25,26] hs ?_
   apply Ah;intro K23 u
   refine AN h hs (fun hs h=>?_) (fun hs h=>?_)
   rotate_left
   ·refine sx [3] hs C ?_
    exact ⟨a,([]),Rl21,ef hs,ef hs,k,h⟩
   refine sk [3,23,24,25] hs u ?_
   clear u
   apply Ah;intro K25 q
   apply Ak
   obtain ⟨l,E,h⟩:=bind_some h
   obtain ⟨Q,V,x⟩:=AA E
   have w:=AB (f:=Cm) x
   have hs:=Aa w hs
   refine rg [3,7,23,24,25] hs ?_
   obtain ⟨D,J,h⟩:=bind_some h
   refine rk 2 [3,23,24,25] hs ?_
   refine Ai _ (ih _ _ _ l.2.2.2.1 _ J) (hv hs) ?_
   refine ne hs q ?_
   clear q
   obtain ⟨ab,h⟩:=Aj h
   refine rl [3,23,24,25] hs (fun e s=>Vl21 ml21 e s (Nat.lt_succ_self _)) ?_
   exact ⟨((if a<D then D else a)),(b+1),([.val (.int .i64 l.1)::(.val (.string l.2.1)::(.val (.int .i64 l.2.2.1)::((l.2.2.2.1.cs)++([.list (l.2.2.2.2.map Bo) .none]))))]),Rl21,ef hs,ef hs,k,h⟩
  ·clear h;rintro e st ⟨j,Xk18,Rk18,rfl,rfl,k,h⟩
   rw [H3] at h
   refine td O o p g k ?_
   refine rg [2] hs ?_
   exact rt h hs g k
theorem LR (w0:World):∀ n:Nat,I8 w0 (AZ n)
 | 0=>fun _ _ _ _ _ h=>(nomatch h)
 | n+1=>PI w0 (AZ n) (LR w0 n) n
def EG (n:Nat) (g:Ty):Option Int :=
 (GB n g 1 4096).bind fun h =>
 if !(decide (h.1=0)) then
  some (h.1)
 else
  (AZ n g).bind fun b =>
  if decide (4096<b) then
   some (9)
  else
   some (0)
theorem Qb (w0:World) (hT:Lib.Utf8Tabs 0 1 w0) (n:Nat) (B:List (List AV)) (Rw:List RowA) (L:List LoopA) (a0:Ty) (r:Int) (h:EG n a0=some r) :
  ACalls Tryz.prog w0 30 [.agg (a0.cs)] ⟨B,Rw,L⟩ fun x st=>x = .val (.int .i64 r)∧st=⟨B,Rw,L⟩:=by
 rw [EG] at h
 refine hd [.tmp 2] Tryz.func30 Tryz.ntmps30 fun M0 W0 p l k a o g hs=>?_
 simp only [Au]
 refine rg [1] hs ?_
 refine rg [1,3] hs ?_
 apply Ah;intro K3 f
 obtain ⟨m,i,h⟩:=bind_some h
 refine rc 2 [1,4] hs ?_;intro K4 e
 refine BB _ (T9 w0 hT n _ _ _ a0 1 (B.length+1) 4096 ev _ i) (hv hs) ?_;rintro _ _ ⟨rfl,rfl⟩
 refine ne hs e ?_
 clear e
 refine rg [1,4,8] hs ?_
 refine AN h hs (fun hs h=>?_) (fun hs h=>?_)
 ·refine rg [2] hs ?_
  exact rt h hs a g
 refine sk [1] hs f ?_
 clear f
 apply Ah;intro K9 c
 obtain ⟨j,d,h⟩:=bind_some h
 refine rc 2 [12] hs ?_;intro K10 b
 refine Ai _ (LR w0 n _ _ _ a0 _ d) (hv hs) ?_
 refine ne hs b ?_
 clear b
 refine AN h hs (fun hs h=>?_) (fun hs h=>?_)
 ·refine rg [2] hs ?_
  exact rt h hs a g
 refine sk [] hs c ?_
 clear c
 refine rg [2] hs ?_
 exact rt h hs a g
def Dt (n:Nat) (b:List (ByteArray × Vl)) (g:(ByteArray × Vl)→Option Bool):Option Bool :=
 (CL n b g).bind fun h =>
 some (decide (0≤h))
theorem Mc (w0:World) (n:Nat) (B:List (List AV)) (Rw:List RowA) (L:List LoopA) (a0:List (ByteArray × Vl)) (fa1:FuncId) (ca1:List AV) (a1:(ByteArray × Vl)→Option Bool) (ha1:∀ (x0:ByteArray × Vl) r,a1 x0=some r→∀ B' rows,B <+: B'→Rw <+: rows→ACalls Tryz.prog w0 fa1 ([.agg (.val (.string x0.1)::(x0.2.cs))]++ca1) ⟨B',rows,L⟩ fun v s=>v = .val (.bool r)∧s=⟨B',rows,L⟩) (r:Bool) (h:Dt n a0 a1=some r) :
  ACalls Tryz.prog w0 216 [.list (a0.map BM) .none,.clo fa1 ca1] ⟨B,Rw,L⟩ fun x st=>x = .val (.bool r)∧st=⟨B,Rw,L⟩:=by
 rw [Dt] at h
 refine hd [.tmp 4] Tryz.func216 Tryz.ntmps216 fun M0 W0 p o k b m g hs=>?_
 simp only [Au]
 have e:=CH (m (.clo fa1 ca1) (by simp))
 refine rg [0,1] hs ?_
 obtain ⟨q,f,h⟩:=bind_some h
 refine rc 2 [4] hs ?_;intro K2 c
 refine Ai _ (IV w0 n _ _ _ a0 fa1 ca1 a1 (fun x0 r j d a l i=>ha1 x0 r j d a (List.IsPrefix.trans px l) (g.pre.trans i)) _ f) (hv hs) ?_
 refine ne hs c ?_
 clear c
 exact rt h hs b g
def D4 (b:ByteArray × Vl) (g:ByteArray × Vl):Bool :=
 (Cb b.1 g.1)&&(!(Ce b.2))
theorem VU (w0:World) (B:List (List AV)) (Rw:List RowA) (L:List LoopA) (a0:ByteArray × Vl) (la1:Nat) (a1:ByteArray × Vl) (hla1:B[la1]? = some (.val (.string a1.1)::(a1.2.cs))) (r:Bool) (h:D4 a0 a1=r) :
  ACalls Tryz.prog w0 217 [.agg (.val (.string a0.1)::(a0.2.cs)),.box la1 0] ⟨B,Rw,L⟩ fun x st=>x = .val (.bool r)∧st=⟨B,Rw,L⟩:=by
 rw [D4] at h
 refine hd [.tmp 3] Tryz.func217 Tryz.ntmps217 fun M0 W0 i f d a g e hs=>?_
 simp only [Au]
 have c:=(Ag.1 hla1).1
 have hs:=Aa (An hla1) hs
 refine rg [1,2] hs ?_
 refine rc 2 [3] hs ?_;intro K2 b
 refine H5 _ (fun _=>NM w0 _ _ _ a0.2) (hv hs) ?_
 refine ne hs b ?_
 clear b
 exact rT h hs a e
theorem Un (w0:World) (B:List (List AV)) (Rw:List RowA) (L:List LoopA) (a0:ByteArray × Vl) (la1:Nat) (a1:ByteArray × Vl) (hla1:B[la1]? = some (.val (.string a1.1)::(a1.2.cs))) :
  ACalls Tryz.prog w0 217 [.agg (.val (.string a0.1)::(a0.2.cs)),.box la1 0] ⟨B,Rw,L⟩ fun x st=>x = .val (.bool (D4 a0 a1))∧st=⟨B,Rw,L⟩:=VU w0 B Rw L a0 la1 a1 hla1 _ rfl
structure VPre (Rw rows:List RowA):Prop where
 pre:Rw <+: rows
def N8:ByteArray × Vl:=(⟨#[]⟩,Vl.mk 0 0 0 ⟨#[]⟩ [] [])
def B5 (l:List (ByteArray × Vl)):List (ByteArray × Vl):=MP Prod.fst N8 l
theorem Gt (l:List (ByteArray × Vl)):(B5 l).length=l.length:=by simp only [B5,MP,List.length_map];exact Hm _ _
theorem KA (x:ByteArray × Vl):(BM x).cells.length=7∧A5 (BM x)=true:=by simp +decide only [go_sem,and_self]
theorem ZaK (x:ByteArray × Vl):(BM x).pub=BM x:=by simp +decide only [go_sem]
theorem XQ (x:ByteArray × Vl):∀ c∈(BM x).cells,∀ a b d,Under a b d c:=by
 intro c hc a b d
 simp only [BM,AV.cells,List.mem_cons] at hc
 rcases hc with rfl | hc
 ·exact .val _
 ·exact x.2.under a b d c hc
theorem ZbN (w0:World) (st:St):ACalls Tryz.prog w0 218 [.list [] .none,.clo 219 []] st fun r s=>r = .tup []∧s=st:=by
 refine ⟨A1 Tryz.func218 rfl (by decide),fun M w c e d=>?_⟩
 obtain ⟨v0,v1,rfl⟩:∃ v0 v1,c = #[v0,v1]:=by
  have hs:=d.1
  simp only [List.length_cons,List.length_nil] at hs
  match c,hs with
  | ⟨[a,b]⟩,_=>exact ⟨a,b,rfl⟩
 have h0:R w0 M w v0 (.list [] .none):=d.2 0 (by simp) (by simp)
 obtain ⟨p,cap,rfl⟩:∃ p cap,v0 = .slice p 0 cap:=by
  generalize hx:AV.list [] Ev.Own.none=x at h0
  cases h0 with
  | nil ho=>exact ⟨_,_,rfl⟩
  | emp ho=>exact ⟨_,_,rfl⟩
  | list sz us hc hm hcell hu ho=>cases hx;exact ⟨_,_,rfl⟩
  | _=>cases hx
 have h:=AnyF.slices_SortFunc_none (P:=Tryz.prog) (ρ:=Tryz.laysSort_ren) Tryz.laysSort p cap v1 w
 refine h.mono ?_
 rintro en g ⟨rfl,rfl⟩
 exact ⟨.tuple #[],M,.tup [],st,rfl,⟨rfl,rfl⟩,.refl _ _ _,e,.tup rfl (fun i f _=>absurd f (by simp))⟩
theorem ZbQ (w0:World) {st:St} {id ver:Nat} (l:List (ByteArray × Vl)) (hid:st.rows[id]? = some (.vec ver 7 (l.flatMap fun x=>(BM x).cells))) (hn:0<l.length) (hz:l.length<4611686018427387904) :
  ACalls Tryz.prog w0 218 [.vec id ver 0 l.length,.clo 219 []] st fun r s=>r = .tup []∧s={ st with rows:=st.rows.set id (.vec ver 7 ((B5 l).flatMap fun x=>(BM x).cells)) } :=
 Zb1 (ρ:=Tryz.laysSort_ren) Tryz.laysSort (A1 Tryz.func218 rfl (by decide)) 6 Tryz.isAgg75 Tryz.sizeOf75 219 (A1 Tryz.func219 rfl (by decide))
  (fun s b r a W d f c e=>ZN s b r a W d f c e) BM Prod.fst N8 l (fun x=>⟨x.2.cs,rfl,Vl.cs_length _⟩) hid hn hz
def II (n:Nat) (g:Int→(List (ByteArray × Vl))→Option Vl) (b:Int) (b1_k12_5:List (ByteArray × Vl)):Option Vl :=
 if BQ (b+1) then
  g (b+1) b1_k12_5
 else none
def JQ (n:Nat)  (b1_k4_5:List (ByteArray × Vl)):Option Vl :=
 if b1_k4_5.length<4611686018427387904 then
  (Bn n (Vl.mk 9 0 0 ((⟨#[]⟩:ByteArray)) ([]) (B5 b1_k4_5))).bind fun b =>
  some (b)
 else none
def Ey (n:Nat) (g:List (ByteArray × Vl)):Nat→Int→(List (ByteArray × Vl))→Option Vl
 | 0,_,_=>none
 | m+1,b,b1_l7_5 =>
  if decide (b<(g.length:Int)) then
   (B7 g b).bind fun h =>
   if BQ (b+1) then
    if 0≤b+1∧b+1≤(g.length:Int)∧(g.length:Int)≤(g.length:Int) then
     (Dt n (g.drop (b+1).toNat) (fun (s:ByteArray × Vl)=>some (D4 s h))).bind fun q =>
     if (!(Ce h.2))&&(!q) then
      if (b1_l7_5.length+1)*104≤140737488355328∧b1_l7_5.length+1≤4611686018427387904 then
       II n (Ey n g m) b (b1_l7_5++([h]))
      else none
     else
      II n (Ey n g m) b b1_l7_5
    else none
   else none
  else
   JQ n b1_l7_5
def KY (n:Nat) (b:List (ByteArray × Vl)):Option Vl :=
 Ey n b n 0 ([])
theorem ZA (w0:World) (n:Nat) (B:List (List AV)) (Rw:List RowA) (L:List LoopA) (a0:List (ByteArray × Vl)) (r:Vl) (h:KY n a0=some r) :
  ACalls Tryz.prog w0 171 [.list (a0.map BM) .none] ⟨B,Rw,L⟩ fun x st=>x = .agg (r.cs)∧st=⟨B,Rw,L⟩:=by
 rw [KY] at h
 refine hd [.cell 2 46] Tryz.func171 Tryz.ntmps171 fun M0 W0 Y E G k hu l hs=>?_
 simp only [Au]
 refine rg [0,2] hs ?_
 apply Ah;intro K2 O
 apply Ao 1 [0,2,3]
 rw [Am];simp +decide only [go_sem,Nat.reduceAdd,QY,Oq,JX]
 (repeat' apply Aa)<;>first | refine O _ _ ?_ | exact cl
 clear O
 refine Aw (fun e st=>∃ (a:List (ByteArray × Vl)) (j:AV) (Xk4:List (List AV)) (Rk4:List RowA),e=[(2,true,.box B.length 0),(3,true,.box (B.length+1) 0)]∧st=⟨B++([[.val (.int .i64 0),.val (.int .i64 0),.val (.int .i64 0),.val (.string ((⟨#[]⟩:ByteArray))),.list ([]) .full,.list ([]) .full],[.val (.int .i64 9),.val (.int .i64 0),.val (.int .i64 0),.val (.string ((⟨#[]⟩:ByteArray))),.list ([]) .full,j]]++Xk4),Rk4,L⟩∧VOne Rw Rk4 7 (a.map BM) j∧JQ n a=some r) ?_ ?_
 ·intro K5 Z
  refine NI (B.length+1) 5 (by first | rfl | (simp only [HQ,Gw];rfl)) rfl ?_;simp +decide only [go_sem,Nat.reduceAdd,List.set_cons_succ,List.set_cons_zero]
  refine rg [0,2,3,8,9,10] hs ?_
  apply Ak
  refine AC (fun m e st=>∃ (d:Int) (c:List (ByteArray × Vl)) (b:AV) (Xl7:List (List AV)) (Rl7:List RowA),e=[(0,true,.list (a0.map BM) .none),(2,true,.box B.length 0),(3,true,.box (B.length+1) 0),(8,true,.list (a0.map BM) .none),(9,true,.val (.int .i64 (a0.length:Int))),(10,true,.val (.int .i64 d))]∧st=⟨B++([[.val (.int .i64 0),.val (.int .i64 0),.val (.int .i64 0),.val (.string ((⟨#[]⟩:ByteArray))),.list ([]) .full,.list ([]) .full],[.val (.int .i64 9),.val (.int .i64 0),.val (.int .i64 0),.val (.string ((⟨#[]⟩:ByteArray))),.list ([]) .full,b]]++Xl7),Rl7,L⟩∧VOne Rw Rl7 7 (c.map BM) b∧Ey n a0 m d c=some r) n ⟨0,[],.list [] .seed,[],Rw,ef hs,ef hs,VOne.none Rw 7,h⟩ ?_
  rintro ml7 e st ⟨d,c,b,Xl7,Rl7,rfl,rfl,l,h⟩ Ul7 Vl7
  cases ml7 with
  | zero=>cases h
  | succ ml7 =>
  rw [Ey] at h
  have hU:=l.under (B.length+2) L.length
  refine tdV Y E G k l ?_
  refine rg [0,2,3,8,9,10,11] hs ?_
  apply Ah;intro K9 J
  refine AN h hs (fun hs h=>?_) (fun hs h=>?_)
  rotate_left
  ·refine sx [2,3] hs Z ?_
   exact ⟨c,b,([]),Rl7,ef hs,ef hs,VOne.of_eq l (by simp only [List.map_append,List.map_cons,List.map_nil]),h⟩
  refine sk [0,2,3,8,9,10] hs J ?_
  clear J
  refine Aw (fun e st=>∃ (i:List (ByteArray × Vl)) (g:AV) (Xk12:List (List AV)) (Rk12:List RowA),e=[(0,true,.list (a0.map BM) .none),(2,true,.box B.length 0),(3,true,.box (B.length+1) 0),(8,true,.list (a0.map BM) .none),(9,true,.val (.int .i64 (a0.length:Int))),(10,true,.val (.int .i64 d))]∧st=⟨B++([[.val (.int .i64 0),.val (.int .i64 0),.val (.int .i64 0),.val (.string ((⟨#[]⟩:ByteArray))),.list ([]) .full,.list ([]) .full],[.val (.int .i64 9),.val (.int .i64 0),.val (.int .i64 0),.val (.string ((⟨#[]⟩:ByteArray))),.list ([]) .full,g]]++Xk12),Rk12,L⟩∧VOne Rw Rk12 7 (i.map BM) g∧II n (Ey n a0 ml7) d i=some r) ?_ ?_
  ·intro K13 C
   apply Ak
   obtain ⟨x15,K,h⟩:=bind_some h
   obtain ⟨Q,ad,F⟩:=AA K
   have H:=AB (f:=BM) F
   have hs:=Aa H hs
   refine rg [0,2,3,4,5,8,9,10] hs ?_
   obtain ⟨aj,h⟩:=Aj h
   obtain ⟨ah,h⟩:=Aj h
   obtain ⟨am,hy19,h⟩:=bind_some h
   refine rc 2 [0,2,3,5,6,8,9,10] hs ?_;intro K16 v
   refine Ai _ (Mc w0 n _ _ _ (a0.drop (d+1).toNat) 217 [.box (B.length+2) 0] (fun (x0:ByteArray × Vl)=>some (D4 x0 x15)) (fun x0 r hx B' ab hB' ak=>by cases hx;exact Un w0 _ _ _ x0 _ x15 (DY hB' (ef hs))) _ hy19) (hv hs) ?_
   refine ne hs v ?_
   clear v
   refine rc 2 [0,2,3,5,8,9,10,28] hs ?_;intro K20 D
   refine Ai _ (NM w0 _ _ _ x15.2) (hv hs) ?_
   refine ne hs D ?_
   clear D
   refine AN h hs (fun hs h=>?_) (fun hs h=>?_)
   ·obtain ⟨w,h⟩:=Aj h
    obtain ⟨af,u,l,o⟩:=l.append (P:=Tryz.prog) (y:=BM x15) OW (by rw [JD];rfl) (by decide) (by rw [List.length_map];exact w.1) (by rw [List.length_map];exact w.2) (KA x15) (ZaK x15) (XQ x15) (fun z hz=>by obtain ⟨y,_,rfl⟩:=List.mem_map.1 hz;exact (KA y).1)
    simp only [Fa] at o
    replace o:=Aa o l.cell
    have hs:=Aa o hs
    refine rl [0,2,3,8,9,10] hs C ?_
    exact ⟨(c++([x15])),af,([.val (.string x15.1)::(x15.2.cs)]),u,ef hs,ef hs,VOne.of_eq l (by simp only [List.map_append,List.map_cons,List.map_nil]),h⟩
   refine sk [0,2,3,8,9,10] hs C ?_
   exact ⟨c,b,([.val (.string x15.1)::(x15.2.cs)]),Rl7,ef hs,ef hs,VOne.of_eq l (by simp only [List.map_append,List.map_cons,List.map_nil]),h⟩
  ·clear h;rintro e st ⟨i,g,Xk12,Rk12,rfl,rfl,l,h⟩
   rw [II] at h
   have hU:=l.under (B.length+2) L.length
   refine tdV Y E G k l ?_
   obtain ⟨ai,h⟩:=Aj h
   refine rl [0,2,3,8,9,10] hs (fun e s=>Vl7 ml7 e s (Nat.lt_succ_self _)) ?_
   exact ⟨(d+1),i,g,([]),Rk12,ef hs,ef hs,VOne.of_eq l (by simp only [List.map_append,List.map_cons,List.map_nil]),h⟩
 ·clear h;rintro e st ⟨a,j,Xk4,Rk4,rfl,rfl,l,h⟩
  rw [JQ] at h
  have hU:=l.under (B.length+2) L.length
  refine tdV Y E G k l ?_
  obtain ⟨aa,h⟩:=Aj h
  rcases l.at_ with ⟨hnil,rfl⟩ | ⟨id,ver,rfl,hpos,hid,hrow⟩
  ·have hb0:a=[]:=List.map_eq_nil_iff.1 hnil
   subst hb0
   refine rc 2 [2,3] hs ?_;intro K27 p
   refine Ai _ (ZbN w0 _) (hv hs) ?_
   refine ne hs p ?_
   clear p
   obtain ⟨ag,t,h⟩:=bind_some h
   rw [show B5 []=[] from List.eq_nil_of_length_eq_zero (Gt [])] at t
   refine rc 2 [2] hs ?_;intro K28 q
   refine Ai _ (Fb w0 n _ _ _ (Vl.mk 9 0 0 ((⟨#[]⟩:ByteArray)) ([]) []) _ t) (hv hs) ?_
   refine ne hs q ?_
   clear q
   exact rt h hs k l
  ·rw [List.length_map] at hpos
   rw [List.length_map]
   rw [show ((a.map BM).flatMap AV.cells)=a.flatMap fun x=>(BM x).cells from List.flatMap_map ..] at hrow
   refine rc 2 [2,3] hs ?_;intro K27 p
   refine BB _ (ZbQ w0 (st:=⟨_,_,_⟩) a hrow hpos aa) (hv hs) ?_;rintro _ _ ⟨rfl,rfl⟩
   refine ne hs p ?_
   clear p
   have V:=(Ag.1 hrow).1
   have ae:EW (Rk4.set id (.vec ver 7 ((B5 a).flatMap fun x=>(BM x).cells))) id ver=some (7,(B5 a).flatMap fun x=>(BM x).cells):=by simp [EW,V]
   have N:(B5 a).length=a.length:=Gt _
   refine OG (B.length+1) 5 true (by first | rfl | (simp only [HQ,Gw];rfl)) rfl ae (.inl rfl) (by rw [Nat.zero_add,Pm (fun x _=>(KA x).1),N];exact Nat.le_refl _) ?_
   have U:PH 7 true ((B5 a).flatMap fun x=>(BM x).cells) 0 a.length=(B5 a).map BM:=by
    have:=ZbS (ys:=(B5 a).map BM) (sz:=7) (fun y hy=>by obtain ⟨x,_,rfl⟩:=List.mem_map.1 hy;exact ⟨_,rfl,(KA x).1⟩)
    rw [List.length_map,N,List.flatMap_map] at this
    exact this
   rw [U]
   simp +decide only [go_sem,Nat.reduceAdd,List.set_cons_succ,List.set_cons_zero]
   obtain ⟨ag,t,h⟩:=bind_some h
   have l:VPre Rw ((Rk4.set id (.vec ver 7 ((B5 a).flatMap fun x=>(BM x).cells))).set id (.dead (ver+1))):=⟨Kz (Kz l.pre hid _) hid _⟩
   refine rc 2 [2] hs ?_;intro K28 q
   refine Ai _ (Fb w0 n _ _ _ (Vl.mk 9 0 0 ((⟨#[]⟩:ByteArray)) ([]) (B5 a)) _ t) (hv hs) ?_
   refine ne hs q ?_
   clear q
   exact rt h hs k l
def Jz (n:Nat) (b:ByteArray) (g:Vl):Option Vl :=
 (Bn n (Vl.mk 10 0 0 b ([g]) ([]))).bind fun h =>
 some (h)
theorem XO (w0:World) (n:Nat) (B:List (List AV)) (Rw:List RowA) (L:List LoopA) (a0:ByteArray) (a1:Vl) (r:Vl) (h:Jz n a0 a1=some r) :
  ACalls Tryz.prog w0 134 [.val (.string a0),.agg (a1.cs)] ⟨B,Rw,L⟩ fun x st=>x = .agg (r.cs)∧st=⟨B,Rw,L⟩:=by
 rw [Jz] at h
 refine hd [.cell 4 46] Tryz.func134 Tryz.ntmps134 fun M0 W0 i f d a g e hs=>?_
 simp only [Au]
 refine rg [0,3,4] hs ?_
 obtain ⟨j,c,h⟩:=bind_some h
 refine rc 2 [4] hs ?_;intro K2 b
 refine Ai _ (Fb w0 n _ _ _ (Vl.mk 10 0 0 a0 ([a1]) ([])) _ c) (hv hs) ?_
 refine ne hs b ?_
 clear b
 exact rt h hs a e
def Ob {α:Type} (p:α→Bool) (l:List α) (j:Nat):Int :=
 if (l.drop j).findIdx p<(l.drop j).length then (j:Int)+((l.drop j).findIdx p:Nat) else -1
theorem LI {α:Type} (p:α→Bool) (l:List α) (j:Nat) (h:l.length≤j):Ob p l j = -1:=by
 unfold Ob
 rw [List.drop_eq_nil_of_le h];rfl
theorem JU {α:Type} (p:α→Bool) (l:List α) (j:Nat) (h:j<l.length):Ob p l j=if p l[j]=true then (j:Int) else Ob p l (j+1):=by
 unfold Ob
 rw [List.drop_eq_getElem_cons h,List.findIdx_cons]
 cases hp:p l[j] with
 | true=>simp;omega
 | false =>
  simp only [cond_false,List.length_cons,Bool.false_eq_true,if_false]
  by_cases q:(l.drop (j+1)).findIdx p<(l.drop (j+1)).length
  ·rw [Ae (by omega),Ae q];push_cast;omega
  ·rw [Af (by omega),Af q]
theorem Pq {α:Type} (p:α→Bool) (l:List α):∀ (k j:Nat),j+k=l.length→Ob p l j = -1∨∃ i,∃ h:i<l.length,Ob p l j=(i:Int)∧p l[i]=true
 | 0,j,h => .inl (LI p l j (by omega))
 | k+1,j,h=>by
  have a:j<l.length:=by omega
  rw [JU p l j a]
  by_cases hp:p l[j]=true
  ·rw [Ae hp];exact .inr ⟨j,a,rfl,hp⟩
  ·rw [Af hp];exact Pq p l k (j+1) (by omega)
theorem Rm (n:Nat) (l:List TF) (p:TF→Bool) (hl:l.length≤1000000000):∀ (k m i:Nat),i+k=l.length→k<m→AU n l (fun x=>some (p x)) m i=some (Ob p l i)
 | k,0,i,_,h=>absurd h (Nat.not_lt_zero _)
 | 0,m+1,i,hi,_=>by
  rw [AU,As,Ac (by omega),LI p l i (by omega)]
  rfl
 | k+1,m+1,i,hi,hm=>by
  have a:i<l.length:=by omega
  rw [AU,As,Ad a]
  simp only [if_true,Az a,Ab]
  rw [JU p l i a]
  by_cases hp:p l[i]=true
  ·rw [Ae hp,Ae hp]
  ·rw [Af hp,Af hp,Ae (Av (by omega))]
   exact Rm n l p hl k m (i+1) (by omega) (by omega)
def Nz:TF:=(0,(⟨#[]⟩:ByteArray),0,Ty.mk 0 0 0 0 [] [] [],[])
theorem Zfu (n:Nat) (t:Ty) (p:TF→Bool) (hn:t.size+1450000≤n) (ht:t.small) :
  (t.kind≠9∧t.kind≠10∧JO n t (fun x=>some (p x))=some (Nz,false)) ∨
  ((t.kind=9∨t.kind=10)∧((Ob p t.fields 0 = -1∧JO n t (fun x=>some (p x))=some (Nz,false))∨∃ i,∃ h:i<t.fields.length,Ob p t.fields 0=(i:Int)∧JO n t (fun x=>some (p x))=some (t.fields[i],true))):=by
 obtain ⟨f,j,c⟩:=ht
 have g:=t.lens
 rw [JO]
 by_cases hk:t.kind=9∨t.kind=10
 ·right
  refine ⟨hk,?_⟩
  rw [Af (by simp only [Bool.and_eq_true,Bool.not_eq_true',decide_eq_false_iff_not];omega)]
  rw [AX]
  have e:=Rm n t.fields p (by omega) t.fields.length n 0 (by omega) (by omega)
  rw [show ((0:Nat):Int)=0 from rfl] at e
  rw [e]
  simp only [Ab]
  rcases Pq p t.fields t.fields.length 0 (by omega) with q | ⟨i,hi,q,hp⟩
  ·rw [q];left;exact ⟨rfl,rfl⟩
  ·rw [q];right
   refine ⟨i,hi,rfl,?_⟩
   rw [Ac (by omega)]
   simp only [Bool.false_eq_true,if_false,Az hi,Ab]
   obtain ⟨_,b,d,a⟩:=(t.ok_eq.1 c).2.2.2 _ (List.getElem_mem hi)
   have hs:=t.field_size _ (List.getElem_mem hi)
   rw [ZdN (Hz n) n t.fields[i] (by omega) (by omega) (fun v hv=>Rt n v (by have:=(a v hv).1;omega) (by have:=(a v hv).1;omega)) (Ss n _ (by omega) (by omega) b)]
   rfl
 ·left
  refine ⟨fun h=>hk (.inl h),fun h=>hk (.inr h),?_⟩
  rw [Ae (by simp only [Bool.and_eq_true,Bool.not_eq_true',decide_eq_false_iff_not];omega)]
  rfl
def CJ (b:Ty) (g:Int) (h:Int):Bool :=
 ((decide (g≤b.min))&&(decide (b.max≤h)))&&(decide (b.min≤b.max))
def LY (g:Int) (b:Bool):(Int × Int) :=
 if b then
  (0,1024)
 else
  if decide (g=6) then
   ((-719162),2932896)
  else
   if decide (g=7) then
    ((-62135596800000),253402300799999)
   else
    (0,256)
def NQ (g:Int) (b:Bool):(Int × Int) :=
 if b then
  ((-999999999999999),999999999999999)
 else
  if decide (g=4) then
   LY g true
  else
   LY g (decide (g=5))
def AL (b:Int):(Int × Int) :=
 if decide (b=2) then
  NQ b true
 else
  NQ b (decide (b=3))
def A7 (b:Ty):Bool :=
 (((((!(decide (2≤b.kind)&&decide (b.kind≤8)))&&((!(decide (b.min=0)))||(!(decide (b.max=0)))))||((!(decide (b.kind=3)))&&(!(decide (b.scale=0)))))||((!(decide (b.kind=4)))&&(decide (0<(b.words.length:Int)))))||((!(decide (b.kind=8)))&&(decide (0<(b.elem.length:Int)))))||(((!(decide (b.kind=9)))&&(!(decide (b.kind=10))))&&(decide (0<(b.fields.length:Int))))
end Go.Proofs.YtgpmlelfkjfbiaaGreatDoor
