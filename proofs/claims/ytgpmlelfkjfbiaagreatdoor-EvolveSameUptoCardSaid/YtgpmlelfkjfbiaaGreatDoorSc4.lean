/-
  Part 4 of the proof: rules and walks that the claim's last text uses.
-/
import Derived.Test.YtgpmlelfkjfbiaaGreatDoorSc3
set_option linter.unusedSimpArgs false
set_option linter.unusedVariables false
set_option maxRecDepth 100000
set_option maxHeartbeats 4000000
namespace Go.Proofs.YtgpmlelfkjfbiaaGreatDoor
open Go Go.RowKit Go.Ev
theorem Ax {α:Type} {l:List α} {k:Nat} (h:k<l.length):Cb l (k:Int)=some l[k]:=ZgT h
theorem As {a b:Nat}:decide ((a:Int)<(b:Int))=decide (a<b):=by simp
theorem Aw {k:Nat} (h:k<1000000000000):BV ((k:Int)+1):=by unfold BV;omega
theorem Ty.size_pos (t:Ty):0<t.size:=by cases t;simp [Ty.size];omega
theorem Ty.size_eq (t:Ty):t.size=1+GP t.elem+EK t.fields:=by cases t;simp [Ty.size,Ty.elem,Ty.fields]
theorem Uz:∀ (l:List Ty) (v:Ty),v∈l→v.size≤GP l
 | [],_,h=>by simp at h
 | a::r,v,h=>by
  rcases List.mem_cons.1 h with rfl | h
  ·simp [GP]
  ·have:=Uz r v h
   simp [GP];omega
theorem Sr:∀ (l:List (Int × ByteArray × Int × Ty × List Vl)) (p:Int × ByteArray × Int × Ty × List Vl),p∈l→p.2.2.2.1.size≤EK l
 | [],_,h=>by simp at h
 | (a,b,c,t,d)::r,p,h=>by
  rcases List.mem_cons.1 h with rfl | h
  ·simp [EK]
  ·have:=Sr r p h
   simp [EK];omega
theorem Ut:∀ l:List Ty,l.length≤GP l
 | []=>Nat.le_refl _
 | v::r=>by have:=Ut r;have:=v.size_pos;simp [GP];omega
theorem RN:∀ l:List (Int × ByteArray × Int × Ty × List Vl),l.length≤EK l
 | []=>Nat.le_refl _
 | (_,_,_,t,_)::r=>by have:=RN r;have:=t.size_pos;simp [EK];omega
theorem Ty.elem_size (t x:Ty) (h:x∈t.elem):x.size<t.size:=by have:=Uz _ _ h;have:=t.size_eq;omega
theorem Ty.field_size (t:Ty) (p) (h:p∈t.fields):p.2.2.2.1.size<t.size:=by have:=Sr _ _ h;have:=t.size_eq;omega
theorem Ty.lens (t:Ty):t.elem.length<t.size∧t.fields.length<t.size:=by have:=Ut t.elem;have:=RN t.fields;have:=t.size_eq;omega
theorem Vl.list_size (v x:Vl) (h:x∈v.list):x.size<v.size:=by have:=MO _ _ h;have:=v.size_eq;omega
theorem Vl.field_size (v:Vl) (p) (h:p∈v.fields):p.2.size<v.size:=by have:=MS _ _ h;have:=v.size_eq;omega
mutual
def Ty.depth:Ty→Nat
 | .mk _ _ _ _ _ e f=>1+max (D9 e) (Db f)
def D9:List Ty→Nat
 | []=>0
 | t::r=>max t.depth (D9 r)
def Db:List (Int × ByteArray × Int × Ty × List Vl)→Nat
 | []=>0
 | (_,_,_,t,_)::r=>max t.depth (Db r)
end
mutual
def Vl.ok:Vl→Prop
 | .mk _ _ _ t l f=>t.size≤1048576∧ZL l∧Y6 f
def ZL:List Vl→Prop
 | []=>True
 | v::r=>v.ok∧ZL r
def Y6:List (ByteArray × Vl)→Prop
 | []=>True
 | (n,v)::r=>n.size≤1048576∧v.ok∧Y6 r
end
theorem Yr:∀ l,ZL l↔∀ v∈l,v.ok
 | []=>by simp [ZL]
 | v::r=>by simp [ZL,Yr r]
theorem YD:∀ l,Y6 l↔∀ p∈l,p.1.size≤1048576∧p.2.ok
 | []=>by simp [Y6]
 | (n,v)::r=>by simp [Y6,YD r,and_assoc]
def Vl.small (v:Vl):Prop:=v.size≤1048575∧v.depth≤1048576∧v.ok
mutual
def Ty.ok:Ty→Prop
 | .mk _ _ _ _ w e f=>w.length≤1048576∧(∀ x∈w,x.size≤1048576)∧ZaZ e∧V0 f
def ZaZ:List Ty→Prop
 | []=>True
 | v::r=>v.ok∧ZaZ r
def V0:List (Int × ByteArray × Int × Ty × List Vl)→Prop
 | []=>True
 | (_,n,_,t,d)::r=>(n.size≤1048576∧t.ok∧d.length≤1048576∧∀ v∈d,v.small)∧V0 r
end
theorem YJ:∀ l,ZaZ l↔∀ v∈l,v.ok
 | []=>by simp [ZaZ]
 | v::r=>by simp [ZaZ,YJ r]
theorem VC:∀ l,V0 l↔∀ p∈l,p.2.1.size≤1048576∧p.2.2.2.1.ok∧p.2.2.2.2.length≤1048576∧∀ v∈p.2.2.2.2,v.small
 | []=>by simp [V0]
 | (_,n,_,t,d)::r=>by simp [V0,VC r]
theorem Ty.ok_eq (t:Ty):t.ok↔t.words.length≤1048576∧(∀ x∈t.words,x.size≤1048576)∧(∀ v∈t.elem,v.ok)∧∀ p∈t.fields,p.2.1.size≤1048576∧p.2.2.2.1.ok∧p.2.2.2.2.length≤1048576∧∀ v∈p.2.2.2.2,v.small:=by
 cases t;simp only [Ty.ok,Ty.words,Ty.elem,Ty.fields,YJ,VC]
theorem Vl.ok_eq (v:Vl):v.ok↔v.text.size≤1048576∧(∀ x∈v.list,x.ok)∧∀ p∈v.fields,p.1.size≤1048576∧p.2.ok:=by
 cases v;simp only [Vl.ok,Vl.text,Vl.list,Vl.fields,Yr,YD]
theorem Nv:∀ (l:List Ty) (d:Nat),D9 l≤d↔∀ v∈l,v.depth≤d
 | [],d=>by simp [D9]
 | v::r,d=>by simp [D9,Nat.max_le,Nv r d]
theorem K0:∀ (l:List (Int × ByteArray × Int × Ty × List Vl)) (d:Nat),Db l≤d↔∀ v∈l,v.2.2.2.1.depth≤d
 | [],d=>by simp [Db]
 | (_,_,_,t,_)::r,d=>by simp [Db,Nat.max_le,K0 r d]
theorem Ty.depth_eq (t:Ty):t.depth=1+Max.max (D9 t.elem) (Db t.fields):=by cases t;simp [Ty.depth,Ty.elem,Ty.fields]
theorem Vl.eta (v:Vl):Vl.mk v.kind v.int v.scale v.text v.list v.fields=v:=by cases v;rfl
theorem Ty.eta (v:Ty):Ty.mk v.kind v.min v.max v.scale v.words v.elem v.fields=v:=by cases v;rfl
theorem U4 (rec:Vl→Option Vl) (n:Nat) (v:Vl) (hs:v.fields.length≤1000000000000) (hr:∀ p∈v.fields,rec p.2=some p.2) (b:List Vl):∀ (k m i:Nat),i+k=v.fields.length→k<m→GY rec n v m i b (v.fields.take i)=some (Vl.mk v.kind v.int v.scale v.text b v.fields)
 | k,0,i,_,h=>absurd h (Nat.not_lt_zero _)
 | 0,m+1,i,hi,_=>by
  rw [GY,As,Ac (by omega)]
  simp only [Bool.false_eq_true,if_false,KY]
  rw [List.take_of_length_le (by omega)]
 | k+1,m+1,i,hi,hm=>by
  have a:i<v.fields.length:=by omega
  rw [GY,As,Ad a]
  simp only [if_true,Ax a,Ab,hr _ (List.getElem_mem a)]
  rw [Ae (by rw [List.length_take];omega),Ae (Aw (by omega))]
  have e:v.fields.take i++[(v.fields[i].1,v.fields[i].2)]=v.fields.take (i+1):=by rw [List.take_succ_eq_append_getElem a]
  rw [e]
  exact U4 rec n v hs hr b k m (i+1) (by omega) (by omega)
theorem RD (rec:Vl→Option Vl) (n:Nat) (v:Vl) (hs:v.fields.length≤1000000000000∧v.list.length≤1000000000000) (hn:v.fields.length<n) (hr:(∀ x∈v.list,rec x=some x)∧∀ p∈v.fields,rec p.2=some p.2):∀ (k m i:Nat),i+k=v.list.length→k<m→HI rec n v m i (v.list.take i)=some v
 | k,0,i,_,h=>absurd h (Nat.not_lt_zero _)
 | 0,m+1,i,hi,_=>by
  rw [HI,As,Ac (by omega)]
  simp only [Bool.false_eq_true,if_false,Nx]
  rw [List.take_of_length_le (by omega)]
  have:=U4 rec n v hs.1 hr.2 v.list v.fields.length n 0 (by omega) hn
  rw [List.take_zero] at this
  exact this.trans (by rw [Vl.eta])
 | k+1,m+1,i,hi,hm=>by
  have a:i<v.list.length:=by omega
  rw [HI,As,Ad a]
  simp only [if_true,Ax a,Ab,hr.1 _ (List.getElem_mem a)]
  rw [Ae (by rw [List.length_take];omega),Ae (Aw (by omega))]
  have e:v.list.take i++[v.list[i]]=v.list.take (i+1):=by rw [List.take_succ_eq_append_getElem a]
  rw [e]
  exact RD rec n v hs hn hr k m (i+1) (by omega) (by omega)
theorem Po:∀ (n:Nat) (v:Vl),v.size<n→v.wide=true→BN n v=some v
 | 0,v,h,_=>absurd h (Nat.not_lt_zero _)
 | n+1,v,h,hs=>by
  have e:=HZ v
  obtain ⟨g,f,d,c⟩:=v.wide_iff.1 hs
  rw [BN,MG]
  have:=RD (BN n) n v ⟨by omega,by omega⟩ (by omega) ⟨fun x b=>Po n x (by have:=v.list_size x b;omega) (d x b),fun p a=>Po n p.2 (by have:=v.field_size p a;omega) (c p a)⟩ v.list.length n 0 (by omega) (by omega)
  rw [List.take_zero] at this
  exact this
theorem Rj (n:Nat) (v:Vl) (h:v.size<n) (hs:v.size≤1000000000):BN n v=some v:=Po n v h (G3 _ v (Nat.le_refl _) (by omega))
abbrev TF:=Int × ByteArray × Int × Ty × List Vl
theorem ZaA (rec:Ty→Option Ty) (n:Nat) (p:TF) (y:Ty) (hs:p.2.2.2.2.length≤1000000000) (hr:∀ v∈p.2.2.2.2,BN n v=some v):∀ (k m i:Nat),i+k=p.2.2.2.2.length→k<m→DO rec n p y m (p.2.2.2.2.take i) i=some (p.1,p.2.1,p.2.2.1,y,p.2.2.2.2)
 | k,0,i,_,h=>absurd h (Nat.not_lt_zero _)
 | 0,m+1,i,hi,_=>by
  rw [DO,As,Ac (by omega)]
  simp only [Bool.false_eq_true,if_false,Hw]
  rw [List.take_of_length_le (by omega)]
 | k+1,m+1,i,hi,hm=>by
  have a:i<p.2.2.2.2.length:=by omega
  rw [DO,As,Ad a]
  simp only [if_true,Ax a,Ab,hr _ (List.getElem_mem a)]
  rw [Ae (by rw [List.length_take];omega),Ae (Aw (by omega))]
  have e:p.2.2.2.2.take i++[p.2.2.2.2[i]]=p.2.2.2.2.take (i+1):=by rw [List.take_succ_eq_append_getElem a]
  rw [e]
  exact ZaA rec n p y hs hr k m (i+1) (by omega) (by omega)
theorem Zdd (rec:Ty→Option Ty) (n:Nat) (p:TF) (hs:p.2.2.2.2.length≤1000000000) (hn:p.2.2.2.2.length<n) (hr:∀ v∈p.2.2.2.2,BN n v=some v) (ht:rec p.2.2.2.1=some p.2.2.2.1):D2 rec n p=some p:=by
 rw [D2,ht]
 simp only [Ab]
 rw [Ae (by omega)]
 have:=ZaA rec n p p.2.2.2.1 hs hr p.2.2.2.2.length n 0 (by omega) hn
 rw [List.take_zero] at this
 exact this
theorem UI (rec:Ty→Option Ty) (n:Nat) (t:Ty) (hw:t.words.length≤1000000000) (hs:t.fields.length≤1000000000) (hr:∀ p∈t.fields,D2 rec n p=some p) (e:List Ty):∀ (k m i:Nat),i+k=t.fields.length→k<m→GQ rec n t m e (t.fields.take i) i=some (Ty.mk t.kind t.min t.max t.scale t.words e t.fields)
 | k,0,i,_,h=>absurd h (Nat.not_lt_zero _)
 | 0,m+1,i,hi,_=>by
  rw [GQ,As,Ac (by omega)]
  simp only [Bool.false_eq_true,if_false,KZ]
  rw [List.take_of_length_le (by omega),Ae (by omega)]
 | k+1,m+1,i,hi,hm=>by
  have a:i<t.fields.length:=by omega
  rw [GQ,As,Ad a]
  simp only [if_true,Ax a,Ab,hr _ (List.getElem_mem a)]
  rw [Ae (by rw [List.length_take];omega),Ae (Aw (by omega))]
  have b:t.fields.take i++[t.fields[i]]=t.fields.take (i+1):=by rw [List.take_succ_eq_append_getElem a]
  rw [b]
  exact UI rec n t hw hs hr e k m (i+1) (by omega) (by omega)
theorem V8 (rec:Ty→Option Ty) (n:Nat) (t:Ty) (hw:t.words.length≤1000000000) (hs:t.fields.length≤1000000000∧t.elem.length≤1000000000) (hn:t.fields.length<n) (hr:(∀ x∈t.elem,rec x=some x)∧∀ p∈t.fields,D2 rec n p=some p):∀ (k m i:Nat),i+k=t.elem.length→k<m→HV rec n t m (t.elem.take i) i=some t
 | k,0,i,_,h=>absurd h (Nat.not_lt_zero _)
 | 0,m+1,i,hi,_=>by
  rw [HV,As,Ac (by omega)]
  simp only [Bool.false_eq_true,if_false,MU]
  rw [List.take_of_length_le (by omega),Ae (by omega)]
  have:=UI rec n t hw hs.1 hr.2 t.elem t.fields.length n 0 (by omega) hn
  rw [List.take_zero] at this
  exact this.trans (by rw [Ty.eta])
 | k+1,m+1,i,hi,hm=>by
  have a:i<t.elem.length:=by omega
  rw [HV,As,Ad a]
  simp only [if_true,Ax a,Ab,hr.1 _ (List.getElem_mem a)]
  rw [Ae (by rw [List.length_take];omega),Ae (Aw (by omega))]
  have e:t.elem.take i++[t.elem[i]]=t.elem.take (i+1):=by rw [List.take_succ_eq_append_getElem a]
  rw [e]
  exact V8 rec n t hw hs hn hr k m (i+1) (by omega) (by omega)
theorem QX:∀ (n:Nat) (t:Ty),t.size+1400000<n→t.size≤1000000000→t.ok→G6 n t=some t
 | 0,t,h,_,_=>absurd h (Nat.not_lt_zero _)
 | n+1,t,h,hs,hok=>by
  have g:=t.lens
  obtain ⟨k,i,f,d⟩:=t.ok_eq.1 hok
  rw [G6,OR,Ae (by omega)]
  have:=V8 (G6 n) n t (by omega) ⟨by omega,by omega⟩ (by omega) ⟨fun x a=>QX n x (by have:=t.elem_size x a;omega) (by have:=t.elem_size x a;omega) (f x a),fun p b=>by
   obtain ⟨_,e,j,c⟩:=d p b
   have:=t.field_size p b
   exact Zdd _ n p (by omega) (by omega) (fun v hv=>Rj n v (by have:=(c v hv).1;omega) (by have:=(c v hv).1;omega)) (QX n _ (by omega) (by omega) e)⟩ t.elem.length n 0 (by omega) (by omega)
  rw [List.take_zero] at this
  exact this
def Lh (n:Nat)  (b:List Ty):Option ((List Ty)) :=
 some (b)
def PC (n:Nat)  : Option ((List Ty)) :=
 some ([])
def GR (n:Nat) (q:Ty):Nat→(List Ty)→Int→Option ((List Ty))
 | 0,_,_=>none
 | m+1,g,b =>
  if decide (b<(q.fields.length:Int)) then
   (Cb q.fields b).bind fun h =>
   if (g.length+1)*104≤140737488355328∧g.length+1≤4611686018427387904 then
    if BV (b+1) then
     (GR n q m) (g++([h.2.2.2.1])) (b+1)
    else none
   else none
  else
   Lh n g
def HY (n:Nat) (g:Ty) (b:Bool):Option ((List Ty)) :=
 if b then
  if 0≤(g.fields.length:Int)∧(g.fields.length:Int)*104≤140737488355328∧(g.fields.length:Int)≤4611686018427387904 then
   GR n g n ([]) 0
  else none
 else
  PC n 
def LZ (n:Nat) (b:Ty):Option ((List Ty)) :=
 if decide (b.kind=8) then
  some (b.elem)
 else
  if decide (b.kind=9) then
   HY n b true
  else
   HY n b (decide (b.kind=10))
theorem Z5 (w0:World) (n:Nat) (B:List (List AV)) (Rw:List RowA) (L:List LoopA) (a0:Ty) (r:(List Ty)) (h:LZ n a0=some r) :
  ACalls Tryz.prog w0 51 [.agg (a0.cs)] ⟨B,Rw,L⟩ fun x st=>x = .list (r.map Ia) .none∧st=⟨B,Rw,L⟩:=by
 rw [LZ] at h
 refine hd [.tmp 2] Tryz.func51 Tryz.ntmps51 fun M0 W0 G p t b V l hs=>?_
 simp only [Au]
 refine rg [1] hs ?_
 refine Av (fun e st=>Ck e st B Rw L [] [a0.cs] [] (PC n  = some r)) ?_ ?_
 ·intro K4 K
  refine rg [1,7] hs ?_
  apply Ak
  refine rg [1,7,8] hs ?_
  refine AL h hs (fun hs h=>?_) (fun hs h=>?_)
  ·refine rg [2] hs ?_
   exact rt h hs b l
  refine Av (fun e st=>∃ (k:Bool),Ck e st B Rw L [(1,true,.box B.length 0),(12,true,.val (.bool k))] [a0.cs] [] (HY n a0 k=some r)) ?_ ?_
  ·intro K11 u
   refine rg [1,7,12] hs ?_
   refine AL h hs (fun hs h=>?_) (fun hs h=>?_)
   ·refine sk [1,12] hs u ?_
    exact ⟨true,([]),Rw,ef hs,ef hs,l,h⟩
   refine rl [1,12] hs u ?_
   exact ⟨(decide (a0.kind=10)),([]),Rw,ef hs,ef hs,l,h⟩
  ·clear h;rintro e st ⟨k,Xk10,Rk10,rfl,rfl,l,h⟩
   rw [HY] at h
   refine td G p t b l ?_
   refine AL h hs (fun hs h=>?_) (fun hs h=>?_)
   ·obtain ⟨Q,h⟩:=Aj h
    have l:=l.make 7 0
    refine rg [1,3] hs ?_
    refine Av (fun e st=>∃ (i:List Ty) (j:Ev.Own),Ck e st B Rw L [(3,true,.list (i.map Ia) j)] [a0.cs] [(7,i.length,j)] (Lh n i=some r)) ?_ ?_
    ·intro K20 E
     refine rg [3,20,21,22] hs ?_
     apply Ak
     refine AC (fun m e st=>∃ (a:List Ty) (d:Int) (c:Ev.Own),Ck e st B Rw L [(3,true,.list (a.map Ia) c),(20,true,.list (a0.fields.map Da) .none),(21,true,.val (.int .i64 (a0.fields.length:Int))),(22,true,.val (.int .i64 d))] [a0.cs] [(7,a.length,c)] (GR n a0 m a d=some r)) n ⟨([]),0,((.row Rk10.length)),([]),((Rk10++[.grow 0 7])),ef hs,ef hs,Owns.of_eq (l) FN,h⟩ ?_
     rintro ml22 e st ⟨a,d,c,Xl22,Rl22,rfl,rfl,l,h⟩ Ul22 Vl22
     cases ml22 with
     | zero=>cases h
     | succ ml22 =>
     rw [GR] at h
     have J:=l.unders
     simp only [List.mem_cons,List.not_mem_nil,or_false,forall_eq_or_imp,forall_eq] at J
     refine td G p t b l ?_
     refine rg [3,20,21,22,23] hs ?_
     apply Ah;intro K24 z
     refine AL h hs (fun hs h=>?_) (fun hs h=>?_)
     rotate_left
     ·refine sx [3] hs E ?_
      exact ⟨a,c,([]),Rl22,ef hs,ef hs,Owns.of_eq (l) FN,h⟩
     refine sk [3,20,21,22] hs z ?_
     clear z
     apply Ah;intro K26 v
     apply Ak
     obtain ⟨o,F,h⟩:=bind_some h
     obtain ⟨N,H,D⟩:=AA F
     have C:=AB (f:=Da) D
     have hs:=Aa C hs
     refine rg [3,5,20,21,22] hs ?_
     obtain ⟨w,h⟩:=Aj h
     obtain ⟨O,q,l,g⟩:=l.append (P:=Tryz.prog) Zcl (by rw [Yd];rfl) (by decide) 1 w.1 w.2
     replace g:=fun (ys:List AV) B L o2=>g (a.map Ia) ys B L o2 FN
     replace g:=fun (y:AV) B L o2=>g [y] B L o2 FN ev
     try simp only [List.mem_singleton,List.mem_cons,List.not_mem_nil,or_false,forall_eq_or_imp,forall_eq,List.map_append,List.map_cons,List.map_nil,Hn,Hk,Ht,Hq,Hm,GG,Fh,Fj,Hj,DZ,DY,Fe,Fp,Fg] at g
     have hs:=Aa g hs
     refine rl [3,20,21,22] hs v ?_
     clear v
     obtain ⟨U,h⟩:=Aj h
     refine rl [3,20,21,22] hs (fun e s=>Vl22 ml22 e s (Nat.lt_succ_self _)) ?_
     exact ⟨(a++([o.2.2.2.1])),(d+1),O,([.val (.int .i64 o.1)::(.val (.string o.2.1)::(.val (.int .i64 o.2.2.1)::((o.2.2.2.1.cs)++([.list (o.2.2.2.2.map Bo) .none]))))]),q,ef hs,ef hs,Owns.of_eq (l) FN,h⟩
    ·clear h;rintro e st ⟨i,j,Xk19,Rk19,rfl,rfl,l,h⟩
     rw [Lh] at h
     have J:=l.unders
     simp only [List.mem_cons,List.not_mem_nil,or_false,forall_eq_or_imp,forall_eq] at J
     refine td G p t b l ?_
     refine rg [2] hs ?_
     exact rt h hs b l
   refine sk [] hs K ?_
   exact ⟨([]),Rk10,ef hs,ef hs,l,h⟩
 ·clear h;rintro e st ⟨Xk3,Rk3,rfl,rfl,l,h⟩
  rw [PC] at h
  refine td G p t b l ?_
  refine rg [2] hs ?_
  exact rt h hs b l
def W3 (t:Ty):List Ty:=if t.kind=8 then t.elem else if t.kind=9∨t.kind=10 then t.fields.map fun p=>p.2.2.2.1 else []
theorem ZcN (n:Nat) (t:Ty) (hs:t.fields.length≤1000000000):∀ (k m i:Nat) (x:List Ty),i+k=t.fields.length→k<m→x.length=i→GR n t m x i=some (x++(t.fields.drop i).map fun p=>p.2.2.2.1)
 | k,0,i,_,_,h,_=>absurd h (Nat.not_lt_zero _)
 | 0,m+1,i,x,hi,_,_=>by
  rw [GR,As,Ac (by omega)]
  simp only [Bool.false_eq_true,if_false,Lh]
  rw [List.drop_eq_nil_of_le (by omega),List.map_nil,List.append_nil]
 | k+1,m+1,i,x,hi,hm,hx=>by
  have a:i<t.fields.length:=by omega
  rw [GR,As,Ad a]
  simp only [if_true,Ax a,Ab]
  rw [Ae (by omega),Ae (Aw (by omega))]
  have ih:=ZcN n t hs k m (i+1) (x++[t.fields[i].2.2.2.1]) (by omega) (by omega) (by simp [hx])
  rw [List.drop_eq_getElem_cons a,List.map_cons]
  rw [List.append_assoc] at ih
  exact ih
theorem ZbL (n:Nat) (t:Ty) (hn:t.fields.length<n) (hs:t.fields.length≤1000000000):LZ n t=some (W3 t):=by
 have a:HY n t true=some (t.fields.map fun p=>p.2.2.2.1):=by
  rw [HY,Ae rfl,Ae (by omega)]
  have:=ZcN n t hs t.fields.length n 0 [] (by omega) hn rfl
  rw [List.drop_zero,List.nil_append] at this
  exact this
 rw [LZ,W3]
 by_cases h1:t.kind=8
 ·rw [Ae (Ad h1),Ae h1]
 rw [Af (by rw [decide_eq_true_eq];exact h1),Af h1]
 by_cases h2:t.kind=9
 ·rw [Ae (Ad h2),a,Ae (.inl h2)]
 rw [Af (by rw [decide_eq_true_eq];exact h2)]
 by_cases h3:t.kind=10
 ·rw [Ad h3,a,Ae (.inr h3)]
 ·rw [Ac h3,Af (by omega)];rfl
theorem Zcv {a b:ByteArray} (h:a.data.toList=b.data.toList):a=b:=by
 cases a;cases b;simp at h;rw [h]
theorem ZaE:∀ a b:List UInt8,Lib.compareBytes a b=0→a=b
 | [],[],_=>rfl
 | [],_::_,h=>absurd (show (-1:Int)=0 from h) (by decide)
 | _::_,[],h=>absurd (show (1:Int)=0 from h) (by decide)
 | x::a,y::b,h=>by
  simp only [Lib.compareBytes] at h
  by_cases h1:x<y
  ·simp [h1] at h
  ·by_cases h2:y<x
   ·simp [h1,h2] at h
   ·simp only [h1,h2,if_false] at h
    rw [ZaE a b h]
    have:x=y:=by
     rw [UInt8.lt_iff_toNat_lt] at h1 h2
     exact UInt8.toNat_inj.1 (by omega)
    rw [this]
theorem J5 (a b:ByteArray):EM a b=0↔a=b:=by
 unfold EM
 constructor
 ·intro h;exact Zcv (ZaE _ _ h)
 ·rintro rfl;exact SV _
theorem E3 (x y:ByteArray):DK x y=true↔x=y:=by
 unfold DK
 rw [beq_iff_eq]
 exact ⟨Zcv,fun h=>by rw [h]⟩
theorem Mc (x:ByteArray):DK x x=true:=(E3 x x).2 rfl
theorem N2 {α:Type} (l m:List α) (i:Nat) (h1:i<l.length) (h2:i<m.length):l.drop i=m.drop i↔l[i]=m[i]∧l.drop (i+1)=m.drop (i+1):=by
 rw [List.drop_eq_getElem_cons h1,List.drop_eq_getElem_cons h2,List.cons.injEq]
theorem Tm {n:Nat} (h:n≤1048576):n≤maxLen:=by unfold maxLen;omega
theorem Vl.ext' {a b:Vl} (h1:a.kind=b.kind) (h2:a.int=b.int) (h3:a.scale=b.scale) (h4:a.text=b.text) (h5:a.list=b.list) (h6:a.fields=b.fields):a=b:=by
 rw [←a.eta,←b.eta,h1,h2,h3,h4,h5,h6]
theorem TF.ext' {p q:TF} (h1:p.1=q.1) (h2:p.2.1=q.2.1) (h3:p.2.2.1=q.2.2.1) (h4:p.2.2.2.1=q.2.2.2.1) (h5:p.2.2.2.2=q.2.2.2.2):p=q:=by
 obtain ⟨a,b,c,d,e⟩:=p
 obtain ⟨h,g,i,f,j⟩:=q
 simp only at h1 h2 h3 h4 h5
 rw [h1,h2,h3,h4,h5]
theorem Ty.ext' {a b:Ty} (h1:a.kind=b.kind) (h2:a.min=b.min) (h3:a.max=b.max) (h4:a.scale=b.scale) (h5:a.words=b.words) (h6:a.elem=b.elem) (h7:a.fields=b.fields):a=b:=by
 rw [←a.eta,←b.eta,h1,h2,h3,h4,h5,h6,h7]
end Go.Proofs.YtgpmlelfkjfbiaaGreatDoor
namespace Go.Ev
open Go
structure VStk (Rw rows:List RowA) (sz:Nat) (xs:List AV) (id ver:Nat):Prop where
 pre:Rw <+: rows
 calm:∀ r∈rows.drop Rw.length,∀ y∈r.cells,∀ a b c,Under a b c y
 own:Rw.length≤id
 len:∀ y∈xs,y.cells.length=sz
 at_:∃ rest,rows[id]? = some (.vec ver sz (xs.flatMap AV.cells++rest))
theorem VStk.under {Rw rows:List RowA} {sz:Nat} {xs:List AV} {id ver:Nat} (h:VStk Rw rows sz xs id ver):id<rows.length:=by
 obtain ⟨a,h⟩:=h.at_
 exact (Ag.1 h).1
theorem VStk.start (Rw:List RowA) {sz:Nat} {y:AV} {cs:List AV} (hc:cs=y.cells) (hy:y.cells.length=sz) (hu:∀ c∈y.cells,∀ a b d,Under a b d c):VStk Rw (Rw++[.vec 0 sz cs]) sz [y] Rw.length 0:=by
 subst hc
 refine ⟨List.prefix_append _ _,fun r f x e a b c=>?_,Nat.le_refl _,fun x e=>by rw [List.mem_singleton.1 e];exact hy,⟨[],by simp⟩⟩
 rw [List.drop_left] at f
 rw [List.mem_singleton.1 f] at e
 exact hu x e a b c
theorem VStk.take {Rw rows:List RowA} {sz:Nat} {xs:List AV} {id ver:Nat} (h:VStk Rw rows sz xs id ver) (k:Nat):VStk Rw rows sz (xs.take k) id ver:=by
 obtain ⟨a,b⟩:=h.at_
 refine ⟨h.pre,h.calm,h.own,fun y c=>h.len y (List.mem_of_mem_take c),⟨(xs.drop k).flatMap AV.cells++a,?_⟩⟩
 rw [b,←List.append_assoc,←List.flatMap_append,List.take_append_drop]
theorem VStk.of_eq {Rw rows:List RowA} {sz:Nat} {xs ys:List AV} {id ver:Nat} (h:VStk Rw rows sz xs id ver) (he:xs=ys):VStk Rw rows sz ys id ver:=he▸h
theorem VStk.append {P:Program} {t el:TypeId} {sz by8:Nat} {ag:Bool} {Rw rows:List RowA} {xs:List AV} {y:AV} {id ver:Nat} (h:VStk Rw rows sz xs id ver) (he:JX P t=some (el,sz,ag,by8)) (hz:(CW P el).isSome=true) (hs:0<sz)
  (hb:(xs.length+1)*by8≤140737488355328) (hb2:xs.length+1≤4611686018427387904) (hy:y.cells.length=sz∧A4 y=true) (hp:y.pub=y) (hu:∀ c∈y.cells,∀ a b d,Under a b d c) :
  ∃ rows',VStk Rw rows' sz (xs++[y]) id (ver+1)∧∀ (B:List (List AV)) (L:List LoopA) (o2:Own),Bq P ⟨B,rows,L⟩ t (.vec id ver 0 xs.length) (.list [y] o2)=(True,.vec id (ver+1) 0 (xs.length+1),⟨B,rows',L⟩):=by
 have p:=h.pre.length_le
 have j:=h.own
 obtain ⟨e,i⟩:=h.at_
 have l:=(Ag.1 i).1
 have k:(xs.flatMap AV.cells).length=xs.length*sz:=ON h.len
 have m:Cm P el sz by8 xs.length [y]=True:=by
  simp only [Cm,hs,hz,List.length_singleton,hb,hb2,true_and,List.mem_singleton,forall_eq,hy,and_self]
 refine ⟨rows.set id (.vec (ver+1) sz (xs.flatMap AV.cells++y.cells)),⟨JO h.pre j _,fun r g z f a b c=>?_,j,fun z hz=>?_,⟨[],by simp [l,List.flatMap_append]⟩⟩,fun B L o2=>?_⟩
 ·rw [List.drop_set,Af (by omega)] at g
  rcases List.mem_or_eq_of_mem_set g with g | rfl
  ·exact h.calm r g z f a b c
  ·rcases List.mem_append.1 f with q | q
   ·exact h.calm (.vec ver sz (xs.flatMap AV.cells++e)) (by
     rw [List.mem_iff_getElem?]
     exact ⟨id-Rw.length,by rw [List.getElem?_drop,Nat.add_sub_cancel' j];exact i⟩) z (List.mem_append_left _ q) a b c
   ·exact hu z q a b c
 ·rcases List.mem_append.1 hz with q | q
  ·exact h.len z q
  ·rw [List.mem_singleton.1 q];exact hy.1
 ·simp only [Bq,he,AX,Cc,List.length_singleton,List.flatMap_cons,List.flatMap_nil,List.append_nil,hp,EQ,i,if_true]
  rw [m]
  have o:(xs.flatMap AV.cells++e).take (xs.length*sz)=xs.flatMap AV.cells:=by rw [←k,List.take_left]
  have n:xs.length*sz≤(xs.flatMap AV.cells++e).length:=by rw [List.length_append];omega
  simp only [true_and,o,eq_true n,and_self]
end Go.Ev
namespace Go.Proofs.YtgpmlelfkjfbiaaGreatDoor
open Go Go.RowKit Go.Ev
def CY (b:Int) (g:Int) (h:Int):Bool :=
 (decide (b<g))||(decide (h<b))
def Dh (b:Vl):Bool :=
 (((((!((((decide (1≤b.kind))&&(decide (b.kind≤3)))||(decide (b.kind=6)))||(decide (b.kind=7))))&&(!(decide (b.int=0))))||((!(decide (b.kind=3)))&&(!(decide (b.scale=0)))))||((!(((decide (b.kind=4))||(decide (b.kind=5)))||(decide (b.kind=10))))&&(!(DK b.text ((⟨#[]⟩:ByteArray))))))||((!((decide (b.kind=8))||(decide (b.kind=10))))&&(decide (0<(b.list.length:Int)))))||((!(decide (b.kind=9)))&&(decide (0<(b.fields.length:Int))))
@[go_sem] theorem vl_a6 (v:Vl) (x d:AV):(v.cs++[x]).getD 6 d=x:=by cases v;rfl
@[go_sem] theorem ZhM (v:Vl) (a b c d e f g:AV):Dw [a,b,c,d,e,f,g] 0 v.cs=v.cs++[g]:=by
 cases v;rfl
@[go_sem] theorem Zhd (v:Vl) (g x:AV):Dw (v.cs++[g]) 6 [x]=v.cs++[x]:=by
 cases v;rfl
def B1 (b:Vl):Bool :=
 (((((decide (b.kind=0))&&(decide (b.int=0)))&&(decide (b.scale=0)))&&(DK b.text ((⟨#[]⟩:ByteArray))))&&(decide ((b.list.length:Int)=0)))&&(decide ((b.fields.length:Int)=0))
theorem Yq (w0:World) (B:List (List AV)) (Rw:List RowA) (L:List LoopA) (a0:Vl) (r:Bool) (h:B1 a0=r) :
  ACalls Tryz.prog w0 62 [.agg (a0.cs)] ⟨B,Rw,L⟩ fun x st=>x = .val (.bool r)∧st=⟨B,Rw,L⟩:=by
 rw [B1] at h
 refine hd [.tmp 2] Tryz.func62 Tryz.ntmps62 fun M0 W0 f d c a e b hs=>?_
 simp only [Au]
 refine rg [1] hs ?_
 refine rg [2] hs ?_
 exact rT h hs a b
theorem Nk (w0:World) (B:List (List AV)) (Rw:List RowA) (L:List LoopA) (a0:Vl) :
  ACalls Tryz.prog w0 62 [.agg (a0.cs)] ⟨B,Rw,L⟩ fun x st=>x = .val (.bool (B1 a0))∧st=⟨B,Rw,L⟩:=Yq w0 B Rw L a0 _ rfl
def BX (b:Int) (g:Int) (h:Int):Int :=
 if (decide (b<g))||(decide (h<b)) then
  2
 else
  0
theorem W4 (w0:World) (B:List (List AV)) (Rw:List RowA) (L:List LoopA) (a0:Int) (a1:Int) (a2:Int) (r:Int) (h:BX a0 a1 a2=r) :
  ACalls Tryz.prog w0 109 [.val (.int .i64 a0),.val (.int .i64 a1),.val (.int .i64 a2)] ⟨B,Rw,L⟩ fun x st=>x = .val (.int .i64 r)∧st=⟨B,Rw,L⟩:=by
 rw [BX] at h
 refine hd [.tmp 6] Tryz.func109 Tryz.ntmps109 fun M0 W0 g e d a f c hs=>?_
 simp only [Au]
 refine rg [0,1,2] hs ?_
 apply Ah;intro K2 b
 refine rg [14] hs ?_
 refine AL h hs (fun hs h=>?_) (fun hs h=>?_)
 ·refine rg [6] hs ?_
  exact rT h hs a c
 refine sk [] hs b ?_
 clear b
 refine rg [6] hs ?_
 exact rT h hs a c
theorem Gl (w0:World) (B:List (List AV)) (Rw:List RowA) (L:List LoopA) (a0:Int) (a1:Int) (a2:Int) :
  ACalls Tryz.prog w0 109 [.val (.int .i64 a0),.val (.int .i64 a1),.val (.int .i64 a2)] ⟨B,Rw,L⟩ fun x st=>x = .val (.int .i64 (BX a0 a1 a2))∧st=⟨B,Rw,L⟩:=W4 w0 B Rw L a0 a1 a2 _ rfl
def FR (b:Vl):Int :=
 BX b.int 0 1
theorem XC (w0:World) (B:List (List AV)) (Rw:List RowA) (L:List LoopA) (a0:Vl) (r:Int) (h:FR a0=r) :
  ACalls Tryz.prog w0 108 [.agg (a0.cs)] ⟨B,Rw,L⟩ fun x st=>x = .val (.int .i64 r)∧st=⟨B,Rw,L⟩:=by
 rw [FR] at h
 refine hd [.tmp 2] Tryz.func108 Tryz.ntmps108 fun M0 W0 g e d a f c hs=>?_
 simp only [Au]
 refine rg [1] hs ?_
 refine rc 2 [2] hs ?_;intro K2 b
 refine Ai _ (Gl w0 _ _ _ a0.int 0 1) (hv hs) ?_
 refine ne hs b ?_
 clear b
 exact rT h hs a c
theorem Vk (w0:World) (B:List (List AV)) (Rw:List RowA) (L:List LoopA) (a0:Vl) :
  ACalls Tryz.prog w0 108 [.agg (a0.cs)] ⟨B,Rw,L⟩ fun x st=>x = .val (.int .i64 (FR a0))∧st=⟨B,Rw,L⟩:=XC w0 B Rw L a0 _ rfl
def Dc (g:Int) (b:Int) (h:Int):Int :=
 if decide (b<g) then
  h
 else
  0
theorem ZbK (w0:World) (B:List (List AV)) (Rw:List RowA) (L:List LoopA) (a0:Int) (a1:Int) (a2:Int) (r:Int) (h:Dc a0 a1 a2=r) :
  ACalls Tryz.prog w0 114 [.val (.int .i64 a0),.val (.int .i64 a1),.val (.int .i64 a2)] ⟨B,Rw,L⟩ fun x st=>x = .val (.int .i64 r)∧st=⟨B,Rw,L⟩:=by
 rw [Dc] at h
 refine hd [.tmp 6] Tryz.func114 Tryz.ntmps114 fun M0 W0 g e d a f c hs=>?_
 simp only [Au]
 refine rg [0,1,2] hs ?_
 apply Ah;intro K2 b
 refine rg [2,9] hs ?_
 refine AL h hs (fun hs h=>?_) (fun hs h=>?_)
 ·refine rg [6] hs ?_
  exact rT h hs a c
 refine sk [] hs b ?_
 clear b
 refine rg [6] hs ?_
 exact rT h hs a c
theorem Kq (w0:World) (B:List (List AV)) (Rw:List RowA) (L:List LoopA) (a0:Int) (a1:Int) (a2:Int) :
  ACalls Tryz.prog w0 114 [.val (.int .i64 a0),.val (.int .i64 a1),.val (.int .i64 a2)] ⟨B,Rw,L⟩ fun x st=>x = .val (.int .i64 (Dc a0 a1 a2))∧st=⟨B,Rw,L⟩:=ZbK w0 B Rw L a0 a1 a2 _ rfl
def Ig (b:Vl):Option Int :=
 if b.text.size≤maxLen then
  if !(E8 b.text) then
   some (12)
  else
   if decide ((b.list.length:Int)=0) then
    some (4)
   else
    some (Dc (b.list.length:Int) 1 3)
 else none
theorem Vi (w0:World) (B:List (List AV)) (Rw:List RowA) (L:List LoopA) (a0:Vl) (r:Int) (h:Ig a0=some r) :
  ACalls Tryz.prog w0 121 [.agg (a0.cs)] ⟨B,Rw,L⟩ fun x st=>x = .val (.int .i64 r)∧st=⟨B,Rw,L⟩:=by
 rw [Ig] at h
 refine hd [.tmp 2] Tryz.func121 Tryz.ntmps121 fun M0 W0 k i g a j e hs=>?_
 simp only [Au]
 refine rg [1] hs ?_
 apply Ah;intro K2 d
 apply Ak
 obtain ⟨f,h⟩:=Aj h
 refine rc 2 [1,3] hs ?_;intro K3 c
 refine Ai _ (Rh w0 _ _ _ a0.text f) (hv hs) ?_
 refine ne hs c ?_
 clear c
 refine AL h hs (fun hs h=>?_) (fun hs h=>?_)
 ·refine rg [2] hs ?_
  exact rt h hs a e
 refine rg [1,8] hs ?_
 refine AL h hs (fun hs h=>?_) (fun hs h=>?_)
 ·refine rg [2] hs ?_
  exact rt h hs a e
 refine sk [1] hs d ?_
 clear d
 refine rc 2 [2] hs ?_;intro K10 b
 refine Ai _ (Kq w0 _ _ _ (a0.list.length:Int) 1 3) (hv hs) ?_
 refine ne hs b ?_
 clear b
 exact rt h hs a e
def FT (b:Vl):Int :=
 BX b.int ((-999999999999999)) 999999999999999
theorem Xi (w0:World) (B:List (List AV)) (Rw:List RowA) (L:List LoopA) (a0:Vl) (r:Int) (h:FT a0=r) :
  ACalls Tryz.prog w0 110 [.agg (a0.cs)] ⟨B,Rw,L⟩ fun x st=>x = .val (.int .i64 r)∧st=⟨B,Rw,L⟩:=by
 rw [FT] at h
 refine hd [.tmp 2] Tryz.func110 Tryz.ntmps110 fun M0 W0 g e d a f c hs=>?_
 simp only [Au]
 refine rg [1] hs ?_
 refine rc 2 [2] hs ?_;intro K2 b
 refine Ai _ (Gl w0 _ _ _ a0.int ((-999999999999999)) 999999999999999) (hv hs) ?_
 refine ne hs b ?_
 clear b
 exact rT h hs a c
theorem Va (w0:World) (B:List (List AV)) (Rw:List RowA) (L:List LoopA) (a0:Vl) :
  ACalls Tryz.prog w0 110 [.agg (a0.cs)] ⟨B,Rw,L⟩ fun x st=>x = .val (.int .i64 (FT a0))∧st=⟨B,Rw,L⟩:=Xi w0 B Rw L a0 _ rfl
def Nu (n:Nat)  : Option Int :=
 some (0)
def HT (n:Nat) (h:List Int):Nat→Int→Option Int
 | 0,_=>none
 | m+1,b =>
  if decide (b<(h.length:Int)) then
   (Cb h b).bind fun g =>
   if !(decide (g=0)) then
    some (g)
   else
    if BV (b+1) then
     (HT n h m) (b+1)
    else none
  else
   Nu n 
def LP (n:Nat) (b:List Int):Option Int :=
 HT n b n 0
theorem Zr (w0:World) (n:Nat) (B:List (List AV)) (Rw:List RowA) (L:List LoopA) (a0:List Int) (r:Int) (h:LP n a0=some r) :
  ACalls Tryz.prog w0 112 [.list (a0.map Yf) .none] ⟨B,Rw,L⟩ fun x st=>x = .val (.int .i64 r)∧st=⟨B,Rw,L⟩:=by
 rw [LP] at h
 refine hd [.tmp 2] Tryz.func112 Tryz.ntmps112 fun M0 W0 v j o b y c hs=>?_
 simp only [Au]
 refine rg [0] hs ?_
 refine Av (fun e st=>Ck e st B Rw L [] [] [] (Nu n  = some r)) ?_ ?_
 ·intro K4 q
  refine rg [5,6,7] hs ?_
  apply Ak
  refine AC (fun m e st=>∃ (a:Int),Ck e st B Rw L [(5,true,.list (a0.map Yf) .none),(6,true,.val (.int .i64 (a0.length:Int))),(7,true,.val (.int .i64 a))] [] [] (HT n a0 m a=some r)) n ⟨0,([]),Rw,ef hs,ef hs,c,h⟩ ?_
  rintro ml6 e st ⟨a,Xl6,Rl6,rfl,rfl,c,h⟩ Ul6 Vl6
  cases ml6 with
  | zero=>cases h
  | succ ml6 =>
  rw [HT] at h
  refine td v j o b c ?_
  refine rg [5,6,7,8] hs ?_
  apply Ah;intro K8 l
  refine AL h hs (fun hs h=>?_) (fun hs h=>?_)
  rotate_left
  ·refine sx [] hs q ?_
   exact ⟨([]),Rl6,ef hs,ef hs,c,h⟩
  refine sk [5,6,7] hs l ?_
  clear l
  apply Ah;intro K10 d
  apply Ak
  obtain ⟨w,k,h⟩:=bind_some h
  obtain ⟨p,t,i⟩:=AA k
  have g:=AB (f:=Yf) i
  have hs:=Aa g hs
  refine rg [4,5,6,7] hs ?_
  refine rg [4,5,6,7,12] hs ?_
  refine AL h hs (fun hs h=>?_) (fun hs h=>?_)
  ·refine rg [2] hs ?_
   exact rt h hs b c
  refine sk [5,6,7] hs d ?_
  clear d
  obtain ⟨u,h⟩:=Aj h
  refine rl [5,6,7] hs (fun e s=>Vl6 ml6 e s (Nat.lt_succ_self _)) ?_
  exact ⟨(a+1),([]),Rl6,ef hs,ef hs,c,h⟩
 ·clear h;rintro e st ⟨Xk3,Rk3,rfl,rfl,c,h⟩
  rw [Nu] at h
  refine td v j o b c ?_
  refine rg [2] hs ?_
  exact rt h hs b c
def Jf (n:Nat) (b:Vl):Option Int :=
 (LP n ([BX b.int ((-999999999999999)) 999999999999999,BX b.scale 0 12])).bind fun g =>
 some (g)
theorem Xb (w0:World) (n:Nat) (B:List (List AV)) (Rw:List RowA) (L:List LoopA) (a0:Vl) (r:Int) (h:Jf n a0=some r) :
  ACalls Tryz.prog w0 111 [.agg (a0.cs)] ⟨B,Rw,L⟩ fun x st=>x = .val (.int .i64 r)∧st=⟨B,Rw,L⟩:=by
 rw [Jf] at h
 refine hd [.tmp 2] Tryz.func111 Tryz.ntmps111 fun M0 W0 j f e a g d hs=>?_
 simp only [Au]
 refine rg [1] hs ?_
 obtain ⟨i,c,h⟩:=bind_some h
 apply Ah;intro K2 b
 refine dk 9 4 1 [2] hs Iw ?_
 refine Ai _ (Gl w0 _ _ _ a0.int ((-999999999999999)) 999999999999999) (hv hs) ?_
 refine nc hs ?_
 refine Ai _ (Gl w0 _ _ _ a0.scale 0 12) (hv hs) ?_
 refine nc hs ?_
 refine Ai _ (Zr w0 n _ _ _ ([BX a0.int ((-999999999999999)) 999999999999999,BX a0.scale 0 12]) _ c) (hv hs) ?_
 refine dn hs b ?_
 clear b
 exact rt h hs a d
def Hh  (b:Int):Option Int :=
 some (b)
def Jh (b:Vl):Option Int :=
 if decide ((Dc (b.text.size:Int) 1024 5)=0) then
  if b.text.size≤maxLen then
   if !(Lib.validD b.text.data.toList) then
    Hh  16
   else
    Hh  (Dc (b.text.size:Int) 1024 5)
  else none
 else
  Hh  (Dc (b.text.size:Int) 1024 5)
theorem W5 (w0:World) (hT:Lib.Utf8Tabs 0 1 w0) (B:List (List AV)) (Rw:List RowA) (L:List LoopA) (a0:Vl) (r:Int) (h:Jh a0=some r) :
  ACalls Tryz.prog w0 113 [.agg (a0.cs)] ⟨B,Rw,L⟩ fun x st=>x = .val (.int .i64 r)∧st=⟨B,Rw,L⟩:=by
 rw [Jh] at h
 refine hd [.tmp 2] Tryz.func113 Tryz.ntmps113 fun M0 W0 l k j b m f hs=>?_
 simp only [Au]
 refine rg [1] hs ?_
 refine rc 2 [1,3] hs ?_;intro K2 g
 refine Ai _ (Kq w0 _ _ _ (a0.text.size:Int) 1024 5) (hv hs) ?_
 refine ne hs g ?_
 clear g
 refine Av (fun e st=>∃ (a:Int),Ck e st B Rw L [(3,true,.val (.int .i64 a))] [a0.cs] [] (Hh  a=some r)) ?_ ?_
 ·intro K5 d
  apply Ah;intro K6 c
  rcases Bool.eq_false_or_eq_true (decide ((Dc (a0.text.size:Int) 1024 5)=0)) with hf7 | hf7
  ·replace h:=AY h hf7
   obtain ⟨i,h⟩:=Aj h
   have hs:=Aa hf7 hs
   refine rk 2 [3,15] hs ?_
   refine Ai _ (Ub w0 _ _ _ hT a0.text i) (hv hs) ?_
   refine ne hs c ?_
   clear c
   refine AL h hs (fun hs h=>?_) (fun hs h=>?_)
   ·refine rl [3] hs d ?_
    exact ⟨16,([]),Rw,ef hs,ef hs,f,h⟩
   refine sk [3] hs d ?_
   exact ⟨(Dc (a0.text.size:Int) 1024 5),([]),Rw,ef hs,ef hs,f,h⟩
  ·replace h:=AZ h hf7
   have hs:=Aa hf7 hs
   refine rk 2 [3,15] hs ?_
   refine Az ?_
   refine ne hs c ?_
   clear c
   refine A2 false ev (ef hs) (fun hb10=>by cases hb10) (fun hb10=>?_)
   refine sk [3] hs d ?_
   exact ⟨(Dc (a0.text.size:Int) 1024 5),([]),Rw,ef hs,ef hs,f,h⟩
 ·clear h;rintro e st ⟨a,Xk4,Rk4,rfl,rfl,f,h⟩
  rw [Hh] at h
  refine td l k j b f ?_
  refine rg [2] hs ?_
  exact rt h hs b f
def FU (b:Vl):Int :=
 Dc (b.text.size:Int) 1024 5
theorem Xx (w0:World) (B:List (List AV)) (Rw:List RowA) (L:List LoopA) (a0:Vl) (r:Int) (h:FU a0=r) :
  ACalls Tryz.prog w0 116 [.agg (a0.cs)] ⟨B,Rw,L⟩ fun x st=>x = .val (.int .i64 r)∧st=⟨B,Rw,L⟩:=by
 rw [FU] at h
 refine hd [.tmp 2] Tryz.func116 Tryz.ntmps116 fun M0 W0 g e d a f c hs=>?_
 simp only [Au]
 refine rg [1] hs ?_
 refine rc 2 [2] hs ?_;intro K2 b
 refine Ai _ (Kq w0 _ _ _ (a0.text.size:Int) 1024 5) (hv hs) ?_
 refine ne hs b ?_
 clear b
 exact rT h hs a c
theorem U6 (w0:World) (B:List (List AV)) (Rw:List RowA) (L:List LoopA) (a0:Vl) :
  ACalls Tryz.prog w0 116 [.agg (a0.cs)] ⟨B,Rw,L⟩ fun x st=>x = .val (.int .i64 (FU a0))∧st=⟨B,Rw,L⟩:=Xx w0 B Rw L a0 _ rfl
def FX (b:Vl):Int :=
 BX b.int ((-719162)) 2932896
theorem WQ (w0:World) (B:List (List AV)) (Rw:List RowA) (L:List LoopA) (a0:Vl) (r:Int) (h:FX a0=r) :
  ACalls Tryz.prog w0 117 [.agg (a0.cs)] ⟨B,Rw,L⟩ fun x st=>x = .val (.int .i64 r)∧st=⟨B,Rw,L⟩:=by
 rw [FX] at h
 refine hd [.tmp 2] Tryz.func117 Tryz.ntmps117 fun M0 W0 g e d a f c hs=>?_
 simp only [Au]
 refine rg [1] hs ?_
 refine rc 2 [2] hs ?_;intro K2 b
 refine Ai _ (Gl w0 _ _ _ a0.int ((-719162)) 2932896) (hv hs) ?_
 refine ne hs b ?_
 clear b
 exact rT h hs a c
theorem Vm (w0:World) (B:List (List AV)) (Rw:List RowA) (L:List LoopA) (a0:Vl) :
  ACalls Tryz.prog w0 117 [.agg (a0.cs)] ⟨B,Rw,L⟩ fun x st=>x = .val (.int .i64 (FX a0))∧st=⟨B,Rw,L⟩:=WQ w0 B Rw L a0 _ rfl
def FV (b:Vl):Int :=
 BX b.int ((-62135596800000)) 253402300799999
theorem W7 (w0:World) (B:List (List AV)) (Rw:List RowA) (L:List LoopA) (a0:Vl) (r:Int) (h:FV a0=r) :
  ACalls Tryz.prog w0 118 [.agg (a0.cs)] ⟨B,Rw,L⟩ fun x st=>x = .val (.int .i64 r)∧st=⟨B,Rw,L⟩:=by
 rw [FV] at h
 refine hd [.tmp 2] Tryz.func118 Tryz.ntmps118 fun M0 W0 g e d a f c hs=>?_
 simp only [Au]
 refine rg [1] hs ?_
 refine rc 2 [2] hs ?_;intro K2 b
 refine Ai _ (Gl w0 _ _ _ a0.int ((-62135596800000)) 253402300799999) (hv hs) ?_
 refine ne hs b ?_
 clear b
 exact rT h hs a c
theorem Vg (w0:World) (B:List (List AV)) (Rw:List RowA) (L:List LoopA) (a0:Vl) :
  ACalls Tryz.prog w0 118 [.agg (a0.cs)] ⟨B,Rw,L⟩ fun x st=>x = .val (.int .i64 (FV a0))∧st=⟨B,Rw,L⟩:=W7 w0 B Rw L a0 _ rfl
def FP (b:Vl):Int :=
 Dc (b.list.length:Int) 256 9
theorem Xr (w0:World) (B:List (List AV)) (Rw:List RowA) (L:List LoopA) (a0:Vl) (r:Int) (h:FP a0=r) :
  ACalls Tryz.prog w0 119 [.agg (a0.cs)] ⟨B,Rw,L⟩ fun x st=>x = .val (.int .i64 r)∧st=⟨B,Rw,L⟩:=by
 rw [FP] at h
 refine hd [.tmp 2] Tryz.func119 Tryz.ntmps119 fun M0 W0 g e d a f c hs=>?_
 simp only [Au]
 refine rg [1] hs ?_
 refine rc 2 [2] hs ?_;intro K2 b
 refine Ai _ (Kq w0 _ _ _ (a0.list.length:Int) 256 9) (hv hs) ?_
 refine ne hs b ?_
 clear b
 exact rT h hs a c
theorem Ve (w0:World) (B:List (List AV)) (Rw:List RowA) (L:List LoopA) (a0:Vl) :
  ACalls Tryz.prog w0 119 [.agg (a0.cs)] ⟨B,Rw,L⟩ fun x st=>x = .val (.int .i64 (FP a0))∧st=⟨B,Rw,L⟩:=Xr w0 B Rw L a0 _ rfl
def JS (n:Nat)  : Option Int :=
 some (0)
def Ej (n:Nat) (q:Vl):Nat→Int→Option Int
 | 0,_=>none
 | m+1,b =>
  if decide (b<(q.fields.length:Int)) then
   (Cb q.fields b).bind fun g =>
   if g.1.size≤maxLen then
    if !(E8 g.1) then
     some (12)
    else
     if decide (0<b) then
      if BV (b-1) then
       (Cb q.fields (b-1)).bind fun h =>
       if DK g.1 h.1 then
        some (7)
       else
        if BV (b-1) then
         if Wq g.1 h.1 then
          some (24)
         else
          if BV (b+1) then
           (Ej n q m) (b+1)
          else none
        else none
      else none
     else
      if BV (b+1) then
       (Ej n q m) (b+1)
      else none
   else none
  else
   JS n 
def Jv (n:Nat) (b:Vl):Option Int :=
 if !(decide ((Dc (b.fields.length:Int) 64 9)=0)) then
  some (Dc (b.fields.length:Int) 64 9)
 else
  Ej n b n 0
theorem Xz (w0:World) (n:Nat) (B:List (List AV)) (Rw:List RowA) (L:List LoopA) (a0:Vl) (r:Int) (h:Jv n a0=some r) :
  ACalls Tryz.prog w0 120 [.agg (a0.cs)] ⟨B,Rw,L⟩ fun x st=>x = .val (.int .i64 r)∧st=⟨B,Rw,L⟩:=by
 rw [Jv] at h
 refine hd [.tmp 2] Tryz.func120 Tryz.ntmps120 fun M0 W0 G q u b Q g hs=>?_
 simp only [Au]
 refine rg [1] hs ?_
 apply Ah;intro K2 v
 refine rc 2 [1,3] hs ?_;intro K3 w
 refine Ai _ (Kq w0 _ _ _ (a0.fields.length:Int) 64 9) (hv hs) ?_
 refine ne hs w ?_
 clear w
 refine rg [1,3,11] hs ?_
 refine AL h hs (fun hs h=>?_) (fun hs h=>?_)
 ·refine rg [2] hs ?_
  exact rt h hs b g
 refine sk [1] hs v ?_
 clear v
 refine Av (fun e st=>Ck e st B Rw L [] [a0.cs] [] (JS n  = some r)) ?_ ?_
 ·intro K9 z
  refine rg [1,14,15,16] hs ?_
  apply Ak
  refine AC (fun m e st=>∃ (a:Int),Ck e st B Rw L [(1,true,.box B.length 0),(14,true,.list (a0.fields.map B9) .none),(15,true,.val (.int .i64 (a0.fields.length:Int))),(16,true,.val (.int .i64 a))] [a0.cs] [] (Ej n a0 m a=some r)) n ⟨0,([]),Rw,ef hs,ef hs,g,h⟩ ?_
  rintro ml11 e st ⟨a,Xl11,Rl11,rfl,rfl,g,h⟩ Ul11 Vl11
  cases ml11 with
  | zero=>cases h
  | succ ml11 =>
  rw [Ej] at h
  refine td G q u b g ?_
  refine rg [1,14,15,16,17] hs ?_
  apply Ah;intro K13 k
  refine AL h hs (fun hs h=>?_) (fun hs h=>?_)
  rotate_left
  ·refine sx [] hs z ?_
   exact ⟨([]),Rl11,ef hs,ef hs,g,h⟩
  refine sk [1,14,15,16] hs k ?_
  clear k
  apply Ah;intro K15 c
  apply Ak
  obtain ⟨i,t,h⟩:=bind_some h
  obtain ⟨F,C,l⟩:=AA t
  have p:=AB (f:=B9) l
  have hs:=Aa p hs
  refine rg [1,4,5,14,15,16] hs ?_
  apply Ak
  obtain ⟨y,h⟩:=Aj h
  refine rc 2 [1,4,5,14,15,16,21] hs ?_;intro K18 j
  refine Ai _ (Rh w0 _ _ _ i.1 y) (hv hs) ?_
  refine ne hs j ?_
  clear j
  refine AL h hs (fun hs h=>?_) (fun hs h=>?_)
  ·refine rg [2] hs ?_
   exact rt h hs b g
  apply Ah;intro K22 d
  rcases Bool.eq_false_or_eq_true (decide (0<a)) with hf23 | hf23
  ·replace h:=AY h hf23
   obtain ⟨J,h⟩:=Aj h
   obtain ⟨O,D,E,o,h⟩:=ix B9 h
   have hs:=Aa hf23 hs
   have hs:=Aa o hs
   refine dl 15 1 1 [1,4,5,14,15,16,26] hs Iw d ?_
   clear d
   refine AL h hs (fun hs h=>?_) (fun hs h=>?_)
   ·refine rg [2] hs ?_
    exact rt h hs b g
   obtain ⟨K,h⟩:=Aj h
   refine dg 15 1 1 [1,14,15,16,41] hs Iw ?_
   refine AL h hs (fun hs h=>?_) (fun hs h=>?_)
   ·refine rg [2] hs ?_
    exact rt h hs b g
   refine sk [1,14,15,16] hs c ?_
   clear c
   obtain ⟨N,h⟩:=Aj h
   refine rl [1,14,15,16] hs (fun e s=>Vl11 ml11 e s (Nat.lt_succ_self _)) ?_
   exact ⟨(a+1),([.val (.string i.1)::(i.2.cs)]),Rl11,ef hs,ef hs,g,h⟩
  ·replace h:=AZ h hf23
   have hs:=Aa hf23 hs
   refine dl 15 1 1 [1,4,5,14,15,16,26] hs Iw d ?_
   clear d
   refine A2 false ev (ef hs) (fun hb33=>by cases hb33) (fun hb33=>?_)
   refine dg 15 1 1 [1,14,15,16,41] hs Iw ?_
   refine A2 false ev (ef hs) (fun hb35=>by cases hb35) (fun hb35=>?_)
   refine sk [1,14,15,16] hs c ?_
   clear c
   obtain ⟨H,h⟩:=Aj h
   refine rl [1,14,15,16] hs (fun e s=>Vl11 ml11 e s (Nat.lt_succ_self _)) ?_
   exact ⟨(a+1),([.val (.string i.1)::(i.2.cs)]),Rl11,ef hs,ef hs,g,h⟩
 ·clear h;rintro e st ⟨Xk8,Rk8,rfl,rfl,g,h⟩
  rw [JS] at h
  refine td G q u b g ?_
  refine rg [2] hs ?_
  exact rt h hs b g
def LW (b:Vl):Bool :=
 (((((((((decide (b.kind=1))||(decide (b.kind=2)))||(decide (b.kind=6)))||(decide (b.kind=7)))||(decide (b.kind=3)))||(decide (b.int=0)))&&((decide (b.kind=3))||(decide (b.scale=0))))&&((((decide (b.kind=4))||(decide (b.kind=5)))||(decide (b.kind=10)))||(DK b.text ((⟨#[]⟩:ByteArray)))))&&(((decide (b.kind=8))||(decide (b.kind=10)))||(decide ((b.list.length:Int)=0))))&&((decide (b.kind=9))||(decide ((b.fields.length:Int)=0)))
theorem Zbe (w0:World) (B:List (List AV)) (Rw:List RowA) (L:List LoopA) (a0:Vl) (r:Bool) (h:LW a0=r) :
  ACalls Tryz.prog w0 63 [.agg (a0.cs)] ⟨B,Rw,L⟩ fun x st=>x = .val (.bool r)∧st=⟨B,Rw,L⟩:=by
 rw [LW] at h
 refine hd [.tmp 2] Tryz.func63 Tryz.ntmps63 fun M0 W0 f d c a e b hs=>?_
 simp only [Au]
 refine rg [1] hs ?_
 refine rg [1,3] hs ?_
 refine rg [1,3,4] hs ?_
 refine rg [1,3,4,5] hs ?_
 refine rg [2] (al hs) ?_
 exact rT h hs a b
theorem ZR (w0:World) (B:List (List AV)) (Rw:List RowA) (L:List LoopA) (a0:Vl) :
  ACalls Tryz.prog w0 63 [.agg (a0.cs)] ⟨B,Rw,L⟩ fun x st=>x = .val (.bool (LW a0))∧st=⟨B,Rw,L⟩:=Zbe w0 B Rw L a0 _ rfl
def B2 (n:Nat)  : List (Nat × Vl)→Int→Option Int
 | [],b3_r7 =>
  some (0)
 | p_r7::rest,b3_r7 =>
  if BV (b3_r7+1) then
   if decide (4096<(b3_r7+1)) then
    some (9)
   else
    if decide (8<(p_r7.1:Int)) then
     some (23)
    else
     if B1 p_r7.2 then
      some (19)
     else
      if (decide (p_r7.2.kind<1))||(decide (10<p_r7.2.kind)) then
       some (11)
      else
       if !(LW p_r7.2) then
        some (3)
       else
        if decide (p_r7.2.kind=0) then
         none
        else
         if decide (p_r7.2.kind=1) then
          if !(decide ((FR p_r7.2)=0)) then
           some (FR p_r7.2)
          else
           (B2 n rest) (b3_r7+1)
         else
          if decide (p_r7.2.kind=2) then
           if !(decide ((FT p_r7.2)=0)) then
            some (FT p_r7.2)
           else
            (B2 n rest) (b3_r7+1)
          else
           if decide (p_r7.2.kind=3) then
            (Jf n p_r7.2).bind fun h =>
            if !(decide (h=0)) then
             some (h)
            else
             (B2 n rest) (b3_r7+1)
           else
            if decide (p_r7.2.kind=4) then
             (Jh p_r7.2).bind fun b =>
             if !(decide (b=0)) then
              some (b)
             else
              (B2 n rest) (b3_r7+1)
            else
             if decide (p_r7.2.kind=5) then
              if !(decide ((FU p_r7.2)=0)) then
               some (FU p_r7.2)
              else
               (B2 n rest) (b3_r7+1)
             else
              if decide (p_r7.2.kind=6) then
               if !(decide ((FX p_r7.2)=0)) then
                some (FX p_r7.2)
               else
                (B2 n rest) (b3_r7+1)
              else
               if decide (p_r7.2.kind=7) then
                if !(decide ((FV p_r7.2)=0)) then
                 some (FV p_r7.2)
                else
                 (B2 n rest) (b3_r7+1)
               else
                if decide (p_r7.2.kind=8) then
                 if !(decide ((FP p_r7.2)=0)) then
                  some (FP p_r7.2)
                 else
                  (B2 n rest) (b3_r7+1)
                else
                 if decide (p_r7.2.kind=9) then
                  (Jv n p_r7.2).bind fun g =>
                  if !(decide (g=0)) then
                   some (g)
                  else
                   (B2 n rest) (b3_r7+1)
                 else
                  if decide (p_r7.2.kind=10) then
                   (Ig p_r7.2).bind fun q =>
                   if !(decide (q=0)) then
                    some (q)
                   else
                    (B2 n rest) (b3_r7+1)
                  else
                   none
  else none
def EX (n:Nat) (b:Vl):Option Int :=
 if b.depth<4611686018427387904∧b.wide=true then
  B2 n (Fa 1 b) 0
 else none
theorem Kt (w0:World) (hT:Lib.Utf8Tabs 0 1 w0) (n:Nat) (B:List (List AV)) (Rw:List RowA) (L:List LoopA) (a0:Vl) (r:Int) (h:EX n a0=some r) :
  ACalls Tryz.prog w0 22 [.agg (a0.cs)] ⟨B,Rw,L⟩ fun x st=>x = .val (.int .i64 r)∧st=⟨B,Rw,L⟩:=by
 rw [EX] at h
 refine hd [.cell 2 32] Tryz.func22 Tryz.ntmps22 fun M0 W0 hN ao aw q hu d hs=>?_
 simp only [Au]
 refine rg [1,2] hs ?_
 apply Ah;intro K2 aj
 apply Ao 2 [1,2,3]
 rw [Am];simp +decide only [go_sem,Nat.reduceAdd,UF]
 (repeat' apply Aa)<;>first | refine Ai _ (Zdw w0 _ _ _ ) (by first | rfl | (simp +decide only [go_sem,Nat.reduceAdd,UF];done) | (simp +decide only [go_sem,Nat.reduceAdd,Vl.cs,Ty.cs,UF];done)) ?_ | exact cl
 rw [Am];simp +decide only [go_sem,Nat.reduceAdd,UF]
 (repeat' apply Aa)<;>first | refine aj _ _ ?_ | exact cl
 clear aj
 refine rg [1,2,3,4] hs ?_
 apply Ah;intro K4 ai
 refine rc 2 [2,3,4,10] hs ?_;intro K5 af
 refine Bt _ (Oq w0 _ _ _ a0) (hv hs) ?_;rintro _ _ ⟨rfl,rfl⟩
 refine ne hs af ?_
 clear af
 apply Ak
 obtain ⟨au,h⟩:=Aj h
 refine RH (ID a0) (fun st=>st.boxes[(B.length+4)]? = some a0.cs) (fun i st=>∃ (c:Int) (Rr7:List RowA),st=⟨B++([a0.cs,[.val (.int .i64 0)],[.val .nilFunc,.clo 108 [],.clo 110 [],.clo 111 [],.clo 113 [],.clo 116 [],.clo 117 [],.clo 118 [],.clo 119 [],.clo 120 [],.clo 121 []],[.val (.int .i64 c)],a0.cs]),Rr7,L⟩∧Owns Rw Rr7 []∧B2 n ((Fa 1 a0).drop i) c=some r) (fun ex st=>ex = .ret∧∃ (z0:List AV) (z2:List AV) (z3:List AV) (z4:List AV) (rows:List RowA),st=⟨B++[z0,[.val (.int .i64 r)],z2,z3,z4],rows,L⟩∧Owns Rw rows []) ev ev (LE w0 a0 au _) (fun x hx=>PG a0 x hx) (by decide) ?_ ⟨0,Rw,ef hs,d,h⟩ (fun _ _ h => .inl h.1) ?_ ?_ ?_
 ·rintro i st la ⟨c,Rr7,rfl,d,h⟩ _ _;simp +decide [St.push]
 ·rintro i s1 ⟨XB,XR,XL⟩ x M1 W1 l la a2 hX hI ay am hx g K hK
  obtain ⟨b,av,rfl,hi⟩:=P3 a0 i x hx
  (try simp only at hX)
  subst hX
  obtain ⟨c,Rr7,rfl,d,h⟩:=hI
  rw [Uy av,B2] at h
  have a:=d
  simp only [St.ext,St.push,List.append_assoc,List.append_nil]
  refine rg [2,3,4,5,12] hs ?_
  apply Ao 1 [2,3,4,5,6]
  rw [Am];simp +decide only [go_sem,Nat.reduceAdd]
  (repeat' apply Aa)<;>first | refine hK _ _ (by simp [St.ext,St.push]) (fun KQ f=>?_) | exact cl
  clear hK
  dsimp only [St.ext,St.push]
  apply Ak
  obtain ⟨a1,h⟩:=Aj h
  refine rg [2,3,4,5,6] hs ?_
  apply Ah;intro K11 u
  apply Ak
  refine rg [2,3,5,6,15] hs ?_
  refine AL h hs (fun hs h=>?_) (fun hs h=>?_)
  ·have j:=hs.1
   refine rg [2] hs ?_
   apply A3;simp +decide only [go_sem,Nat.reduceAdd,j]
   have hgt:=Option.some.inj h;subst hgt
   refine f _ _ _ ⟨⟨B++[a0.cs,[.val (.int .i64 9)],[.val .nilFunc,.clo 108 [],.clo 110 [],.clo 111 [],.clo 113 [],.clo 116 [],.clo 117 [],.clo 118 [],.clo 119 [],.clo 120 [],.clo 121 []],[.val (.int .i64 (c+1))],a0.cs],Rr7,L⟩,[b.2.cs],by first | rfl | (simp only [List.append_assoc,List.append_nil,List.cons_append,List.nil_append];done),⟨by simp,by first | exact Nat.le_refl _ | (have:=d.len;simp;omega),rfl⟩,rfl,⟨rfl,_,_,_,_,Rr7,ef hs,d.sub (List.nil_sublist _)⟩,?_⟩
   exact .inr (A7 g a d rfl (ln d a) SJ ow)
  have j:=hs.1
  refine rg [2,3,6,18] hs ?_
  refine AL h hs (fun hs h=>?_) (fun hs h=>?_)
  ·have k:=hs.1
   refine rg [2] hs ?_
   apply A3;simp +decide only [go_sem,Nat.reduceAdd,j,k]
   have hgt:=Option.some.inj h;subst hgt
   refine f _ _ _ ⟨⟨B++[a0.cs,[.val (.int .i64 23)],[.val .nilFunc,.clo 108 [],.clo 110 [],.clo 111 [],.clo 113 [],.clo 116 [],.clo 117 [],.clo 118 [],.clo 119 [],.clo 120 [],.clo 121 []],[.val (.int .i64 (c+1))],a0.cs],Rr7,L⟩,[b.2.cs],by first | rfl | (simp only [List.append_assoc,List.append_nil,List.cons_append,List.nil_append];done),⟨by simp,by first | exact Nat.le_refl _ | (have:=d.len;simp;omega),rfl⟩,rfl,⟨rfl,_,_,_,_,Rr7,ef hs,d.sub (List.nil_sublist _)⟩,?_⟩
   exact .inr (A7 g a d rfl (ln d a) SJ ow)
  have k:=hs.1
  refine rc 2 [2,3,6,21] hs ?_;intro K18 H
  refine Ai _ (Nk w0 _ _ _ b.2) (hv hs) ?_
  refine ne hs H ?_
  clear H
  refine AL h hs (fun hs h=>?_) (fun hs h=>?_)
  ·have m:=hs.1
   refine rg [2] hs ?_
   apply A3;simp +decide only [go_sem,Nat.reduceAdd,j,k,m]
   have hgt:=Option.some.inj h;subst hgt
   refine f _ _ _ ⟨⟨B++[a0.cs,[.val (.int .i64 19)],[.val .nilFunc,.clo 108 [],.clo 110 [],.clo 111 [],.clo 113 [],.clo 116 [],.clo 117 [],.clo 118 [],.clo 119 [],.clo 120 [],.clo 121 []],[.val (.int .i64 (c+1))],a0.cs],Rr7,L⟩,[b.2.cs],by first | rfl | (simp only [List.append_assoc,List.append_nil,List.cons_append,List.nil_append];done),⟨by simp,by first | exact Nat.le_refl _ | (have:=d.len;simp;omega),rfl⟩,rfl,⟨rfl,_,_,_,_,Rr7,ef hs,d.sub (List.nil_sublist _)⟩,?_⟩
   exact .inr (A7 g a d rfl (ln d a) SJ ow)
  have m:=hs.1
  refine rg [2,3,6,24] hs ?_
  refine AL h hs (fun hs h=>?_) (fun hs h=>?_)
  ·have o:=hs.1
   refine rg [2] hs ?_
   apply A3;simp +decide only [go_sem,Nat.reduceAdd,j,k,m,o]
   have hgt:=Option.some.inj h;subst hgt
   refine f _ _ _ ⟨⟨B++[a0.cs,[.val (.int .i64 11)],[.val .nilFunc,.clo 108 [],.clo 110 [],.clo 111 [],.clo 113 [],.clo 116 [],.clo 117 [],.clo 118 [],.clo 119 [],.clo 120 [],.clo 121 []],[.val (.int .i64 (c+1))],a0.cs],Rr7,L⟩,[b.2.cs],by first | rfl | (simp only [List.append_assoc,List.append_nil,List.cons_append,List.nil_append];done),⟨by simp,by first | exact Nat.le_refl _ | (have:=d.len;simp;omega),rfl⟩,rfl,⟨rfl,_,_,_,_,Rr7,ef hs,d.sub (List.nil_sublist _)⟩,?_⟩
   exact .inr (A7 g a d rfl (ln d a) SJ ow)
  have o:=hs.1
  refine rc 2 [2,3,6,33] hs ?_;intro K24 ad
  refine Ai _ (ZR w0 _ _ _ b.2) (hv hs) ?_
  refine ne hs ad ?_
  clear ad
  refine AL h hs (fun hs h=>?_) (fun hs h=>?_)
  ·have p:=hs.1
   refine rg [2] hs ?_
   apply A3;simp +decide only [go_sem,Nat.reduceAdd,j,k,m,o,p]
   have hgt:=Option.some.inj h;subst hgt
   refine f _ _ _ ⟨⟨B++[a0.cs,[.val (.int .i64 3)],[.val .nilFunc,.clo 108 [],.clo 110 [],.clo 111 [],.clo 113 [],.clo 116 [],.clo 117 [],.clo 118 [],.clo 119 [],.clo 120 [],.clo 121 []],[.val (.int .i64 (c+1))],a0.cs],Rr7,L⟩,[b.2.cs],by first | rfl | (simp only [List.append_assoc,List.append_nil,List.cons_append,List.nil_append];done),⟨by simp,by first | exact Nat.le_refl _ | (have:=d.len;simp;omega),rfl⟩,rfl,⟨rfl,_,_,_,_,Rr7,ef hs,d.sub (List.nil_sublist _)⟩,?_⟩
   exact .inr (A7 g a d rfl (ln d a) SJ ow)
  have p:=hs.1
  refine sk [2,3,6] hs u ?_
  clear u
  apply Ah;intro K27 e
  rcases Bool.eq_false_or_eq_true (decide (b.2.kind=0)) with hf28 | hf28
  ·replace h:=AY h hf28
   have az:b.2.kind=0:=of_decide_eq_true hf28
   cases h
  ·replace h:=AZ h hf28
   rcases Bool.eq_false_or_eq_true (decide (b.2.kind=1)) with hf30 | hf30
   ·replace h:=AY h hf30
    have aa:b.2.kind=1:=of_decide_eq_true hf30
    have hs:=Aa hf28 hs
    have hs:=Aa hf30 hs
    have hs:=Aa aa hs
    refine dk 7 2 1 [2,7] hs Iw ?_
    refine Ai _ (Vk w0 _ _ _ b.2) (hv hs) ?_
    refine dn hs e ?_
    clear e
    refine rg [2,7,44] hs ?_
    refine AL h hs (fun hs h=>?_) (fun hs h=>?_)
    ·have V:=hs.1
     refine rg [2] hs ?_
     apply A3;simp +decide only [go_sem,Nat.reduceAdd,j,k,m,o,p,hf28,hf30,aa,V]
     have hgt:=Option.some.inj h;subst hgt
     refine f _ _ _ ⟨⟨B++[a0.cs,[.val (.int .i64 (FR b.2))],[.val .nilFunc,.clo 108 [],.clo 110 [],.clo 111 [],.clo 113 [],.clo 116 [],.clo 117 [],.clo 118 [],.clo 119 [],.clo 120 [],.clo 121 []],[.val (.int .i64 (c+1))],a0.cs],Rr7,L⟩,[b.2.cs],by first | rfl | (simp only [List.append_assoc,List.append_nil,List.cons_append,List.nil_append];done),⟨by simp,by first | exact Nat.le_refl _ | (have:=d.len;simp;omega),rfl⟩,rfl,⟨rfl,_,_,_,_,Rr7,ef hs,d.sub (List.nil_sublist _)⟩,?_⟩
     exact .inr (A7 g a d rfl (ln d a) SJ ow)
    have V:=hs.1
    refine DU (Do [] _) ?_ (Bg _ _)
    apply Bl;simp +decide only [go_sem,Nat.reduceAdd]
    (repeat' apply Aa)<;>first | refine f _ _ _ ⟨⟨B++[a0.cs,[.val (.int .i64 0)],[.val .nilFunc,.clo 108 [],.clo 110 [],.clo 111 [],.clo 113 [],.clo 116 [],.clo 117 [],.clo 118 [],.clo 119 [],.clo 120 [],.clo 121 []],[.val (.int .i64 (c+1))],a0.cs],Rr7,L⟩,[b.2.cs],by first | rfl | (simp only [List.append_assoc,List.append_nil,List.cons_append,List.nil_append];done),⟨by simp,by first | exact Nat.le_refl _ | (have:=d.len;simp;omega),rfl⟩,rfl,⟨(c+1),Rr7,ef hs,d,h⟩,?_⟩ | exact cl
    exact .inr (A7 g a d rfl (ln d a) SJ ow)
   ·replace h:=AZ h hf30
    rcases Bool.eq_false_or_eq_true (decide (b.2.kind=2)) with hf35 | hf35
    ·replace h:=AY h hf35
     have G:b.2.kind=2:=of_decide_eq_true hf35
     have hs:=Aa hf28 hs
     have hs:=Aa hf30 hs
     have hs:=Aa hf35 hs
     have hs:=Aa G hs
     refine dk 7 2 1 [2,7] hs Iw ?_
     refine Ai _ (Va w0 _ _ _ b.2) (hv hs) ?_
     refine dn hs e ?_
     clear e
     refine rg [2,7,44] hs ?_
     refine AL h hs (fun hs h=>?_) (fun hs h=>?_)
     ·have E:=hs.1
      refine rg [2] hs ?_
      apply A3;simp +decide only [go_sem,Nat.reduceAdd,j,k,m,o,p,hf28,hf30,hf35,G,E]
      have hgt:=Option.some.inj h;subst hgt
      refine f _ _ _ ⟨⟨B++[a0.cs,[.val (.int .i64 (FT b.2))],[.val .nilFunc,.clo 108 [],.clo 110 [],.clo 111 [],.clo 113 [],.clo 116 [],.clo 117 [],.clo 118 [],.clo 119 [],.clo 120 [],.clo 121 []],[.val (.int .i64 (c+1))],a0.cs],Rr7,L⟩,[b.2.cs],by first | rfl | (simp only [List.append_assoc,List.append_nil,List.cons_append,List.nil_append];done),⟨by simp,by first | exact Nat.le_refl _ | (have:=d.len;simp;omega),rfl⟩,rfl,⟨rfl,_,_,_,_,Rr7,ef hs,d.sub (List.nil_sublist _)⟩,?_⟩
      exact .inr (A7 g a d rfl (ln d a) SJ ow)
     have E:=hs.1
     refine DU (Do [] _) ?_ (Bg _ _)
     apply Bl;simp +decide only [go_sem,Nat.reduceAdd]
     (repeat' apply Aa)<;>first | refine f _ _ _ ⟨⟨B++[a0.cs,[.val (.int .i64 0)],[.val .nilFunc,.clo 108 [],.clo 110 [],.clo 111 [],.clo 113 [],.clo 116 [],.clo 117 [],.clo 118 [],.clo 119 [],.clo 120 [],.clo 121 []],[.val (.int .i64 (c+1))],a0.cs],Rr7,L⟩,[b.2.cs],by first | rfl | (simp only [List.append_assoc,List.append_nil,List.cons_append,List.nil_append];done),⟨by simp,by first | exact Nat.le_refl _ | (have:=d.len;simp;omega),rfl⟩,rfl,⟨(c+1),Rr7,ef hs,d,h⟩,?_⟩ | exact cl
     exact .inr (A7 g a d rfl (ln d a) SJ ow)
    ·replace h:=AZ h hf35
     rcases Bool.eq_false_or_eq_true (decide (b.2.kind=3)) with hf40 | hf40
     ·replace h:=AY h hf40
      have F:b.2.kind=3:=of_decide_eq_true hf40
      obtain ⟨ap,ag,h⟩:=bind_some h
      have hs:=Aa hf28 hs
      have hs:=Aa hf30 hs
      have hs:=Aa hf35 hs
      have hs:=Aa hf40 hs
      have hs:=Aa F hs
      refine dk 7 2 1 [2,7] hs Iw ?_
      refine Ai _ (Xb w0 n _ _ _ b.2 _ ag) (hv hs) ?_
      refine dn hs e ?_
      clear e
      refine rg [2,7,44] hs ?_
      refine AL h hs (fun hs h=>?_) (fun hs h=>?_)
      ·have Y:=hs.1
       refine rg [2] hs ?_
       apply A3;simp +decide only [go_sem,Nat.reduceAdd,j,k,m,o,p,hf28,hf30,hf35,hf40,F,Y]
       have hgt:=Option.some.inj h;subst hgt
       refine f _ _ _ ⟨⟨B++[a0.cs,[.val (.int .i64 ap)],[.val .nilFunc,.clo 108 [],.clo 110 [],.clo 111 [],.clo 113 [],.clo 116 [],.clo 117 [],.clo 118 [],.clo 119 [],.clo 120 [],.clo 121 []],[.val (.int .i64 (c+1))],a0.cs],Rr7,L⟩,[b.2.cs],by first | rfl | (simp only [List.append_assoc,List.append_nil,List.cons_append,List.nil_append];done),⟨by simp,by first | exact Nat.le_refl _ | (have:=d.len;simp;omega),rfl⟩,rfl,⟨rfl,_,_,_,_,Rr7,ef hs,d.sub (List.nil_sublist _)⟩,?_⟩
       exact .inr (A7 g a d rfl (ln d a) SJ ow)
      have Y:=hs.1
      refine DU (Do [] _) ?_ (Bg _ _)
      apply Bl;simp +decide only [go_sem,Nat.reduceAdd]
      (repeat' apply Aa)<;>first | refine f _ _ _ ⟨⟨B++[a0.cs,[.val (.int .i64 0)],[.val .nilFunc,.clo 108 [],.clo 110 [],.clo 111 [],.clo 113 [],.clo 116 [],.clo 117 [],.clo 118 [],.clo 119 [],.clo 120 [],.clo 121 []],[.val (.int .i64 (c+1))],a0.cs],Rr7,L⟩,[b.2.cs],by first | rfl | (simp only [List.append_assoc,List.append_nil,List.cons_append,List.nil_append];done),⟨by simp,by first | exact Nat.le_refl _ | (have:=d.len;simp;omega),rfl⟩,rfl,⟨(c+1),Rr7,ef hs,d,h⟩,?_⟩ | exact cl
      exact .inr (A7 g a d rfl (ln d a) SJ ow)
     ·replace h:=AZ h hf40
      rcases Bool.eq_false_or_eq_true (decide (b.2.kind=4)) with hf46 | hf46
      ·replace h:=AY h hf46
       have C:b.2.kind=4:=of_decide_eq_true hf46
       obtain ⟨ar,ah,h⟩:=bind_some h
       have hs:=Aa hf28 hs
       have hs:=Aa hf30 hs
       have hs:=Aa hf35 hs
       have hs:=Aa hf40 hs
       have hs:=Aa hf46 hs
       have hs:=Aa C hs
       refine dk 7 2 1 [2,7] hs Iw ?_
       refine Ai _ (W5 w0 hT _ _ _ b.2 _ ah) (hv hs) ?_
       refine dn hs e ?_
       clear e
       refine rg [2,7,44] hs ?_
       refine AL h hs (fun hs h=>?_) (fun hs h=>?_)
       ·have O:=hs.1
        refine rg [2] hs ?_
        apply A3;simp +decide only [go_sem,Nat.reduceAdd,j,k,m,o,p,hf28,hf30,hf35,hf40,hf46,C,O]
        have hgt:=Option.some.inj h;subst hgt
        refine f _ _ _ ⟨⟨B++[a0.cs,[.val (.int .i64 ar)],[.val .nilFunc,.clo 108 [],.clo 110 [],.clo 111 [],.clo 113 [],.clo 116 [],.clo 117 [],.clo 118 [],.clo 119 [],.clo 120 [],.clo 121 []],[.val (.int .i64 (c+1))],a0.cs],Rr7,L⟩,[b.2.cs],by first | rfl | (simp only [List.append_assoc,List.append_nil,List.cons_append,List.nil_append];done),⟨by simp,by first | exact Nat.le_refl _ | (have:=d.len;simp;omega),rfl⟩,rfl,⟨rfl,_,_,_,_,Rr7,ef hs,d.sub (List.nil_sublist _)⟩,?_⟩
        exact .inr (A7 g a d rfl (ln d a) SJ ow)
       have O:=hs.1
       refine DU (Do [] _) ?_ (Bg _ _)
       apply Bl;simp +decide only [go_sem,Nat.reduceAdd]
       (repeat' apply Aa)<;>first | refine f _ _ _ ⟨⟨B++[a0.cs,[.val (.int .i64 0)],[.val .nilFunc,.clo 108 [],.clo 110 [],.clo 111 [],.clo 113 [],.clo 116 [],.clo 117 [],.clo 118 [],.clo 119 [],.clo 120 [],.clo 121 []],[.val (.int .i64 (c+1))],a0.cs],Rr7,L⟩,[b.2.cs],by first | rfl | (simp only [List.append_assoc,List.append_nil,List.cons_append,List.nil_append];done),⟨by simp,by first | exact Nat.le_refl _ | (have:=d.len;simp;omega),rfl⟩,rfl,⟨(c+1),Rr7,ef hs,d,h⟩,?_⟩ | exact cl
       exact .inr (A7 g a d rfl (ln d a) SJ ow)
      ·replace h:=AZ h hf46
       rcases Bool.eq_false_or_eq_true (decide (b.2.kind=5)) with hf52 | hf52
       ·replace h:=AY h hf52
        have w:b.2.kind=5:=of_decide_eq_true hf52
        have hs:=Aa hf28 hs
        have hs:=Aa hf30 hs
        have hs:=Aa hf35 hs
        have hs:=Aa hf40 hs
        have hs:=Aa hf46 hs
        have hs:=Aa hf52 hs
        have hs:=Aa w hs
        refine dk 7 2 1 [2,7] hs Iw ?_
        refine Ai _ (U6 w0 _ _ _ b.2) (hv hs) ?_
        refine dn hs e ?_
        clear e
        refine rg [2,7,44] hs ?_
        refine AL h hs (fun hs h=>?_) (fun hs h=>?_)
        ·have v:=hs.1
         refine rg [2] hs ?_
         apply A3;simp +decide only [go_sem,Nat.reduceAdd,j,k,m,o,p,hf28,hf30,hf35,hf40,hf46,hf52,w,v]
         have hgt:=Option.some.inj h;subst hgt
         refine f _ _ _ ⟨⟨B++[a0.cs,[.val (.int .i64 (FU b.2))],[.val .nilFunc,.clo 108 [],.clo 110 [],.clo 111 [],.clo 113 [],.clo 116 [],.clo 117 [],.clo 118 [],.clo 119 [],.clo 120 [],.clo 121 []],[.val (.int .i64 (c+1))],a0.cs],Rr7,L⟩,[b.2.cs],by first | rfl | (simp only [List.append_assoc,List.append_nil,List.cons_append,List.nil_append];done),⟨by simp,by first | exact Nat.le_refl _ | (have:=d.len;simp;omega),rfl⟩,rfl,⟨rfl,_,_,_,_,Rr7,ef hs,d.sub (List.nil_sublist _)⟩,?_⟩
         exact .inr (A7 g a d rfl (ln d a) SJ ow)
        have v:=hs.1
        refine DU (Do [] _) ?_ (Bg _ _)
        apply Bl;simp +decide only [go_sem,Nat.reduceAdd]
        (repeat' apply Aa)<;>first | refine f _ _ _ ⟨⟨B++[a0.cs,[.val (.int .i64 0)],[.val .nilFunc,.clo 108 [],.clo 110 [],.clo 111 [],.clo 113 [],.clo 116 [],.clo 117 [],.clo 118 [],.clo 119 [],.clo 120 [],.clo 121 []],[.val (.int .i64 (c+1))],a0.cs],Rr7,L⟩,[b.2.cs],by first | rfl | (simp only [List.append_assoc,List.append_nil,List.cons_append,List.nil_append];done),⟨by simp,by first | exact Nat.le_refl _ | (have:=d.len;simp;omega),rfl⟩,rfl,⟨(c+1),Rr7,ef hs,d,h⟩,?_⟩ | exact cl
        exact .inr (A7 g a d rfl (ln d a) SJ ow)
       ·replace h:=AZ h hf52
        rcases Bool.eq_false_or_eq_true (decide (b.2.kind=6)) with hf57 | hf57
        ·replace h:=AY h hf57
         have J:b.2.kind=6:=of_decide_eq_true hf57
         have hs:=Aa hf28 hs
         have hs:=Aa hf30 hs
         have hs:=Aa hf35 hs
         have hs:=Aa hf40 hs
         have hs:=Aa hf46 hs
         have hs:=Aa hf52 hs
         have hs:=Aa hf57 hs
         have hs:=Aa J hs
         refine dk 7 2 1 [2,7] hs Iw ?_
         refine Ai _ (Vm w0 _ _ _ b.2) (hv hs) ?_
         refine dn hs e ?_
         clear e
         refine rg [2,7,44] hs ?_
         refine AL h hs (fun hs h=>?_) (fun hs h=>?_)
         ·have z:=hs.1
          refine rg [2] hs ?_
          apply A3;simp +decide only [go_sem,Nat.reduceAdd,j,k,m,o,p,hf28,hf30,hf35,hf40,hf46,hf52,hf57,J,z]
          have hgt:=Option.some.inj h;subst hgt
          refine f _ _ _ ⟨⟨B++[a0.cs,[.val (.int .i64 (FX b.2))],[.val .nilFunc,.clo 108 [],.clo 110 [],.clo 111 [],.clo 113 [],.clo 116 [],.clo 117 [],.clo 118 [],.clo 119 [],.clo 120 [],.clo 121 []],[.val (.int .i64 (c+1))],a0.cs],Rr7,L⟩,[b.2.cs],by first | rfl | (simp only [List.append_assoc,List.append_nil,List.cons_append,List.nil_append];done),⟨by simp,by first | exact Nat.le_refl _ | (have:=d.len;simp;omega),rfl⟩,rfl,⟨rfl,_,_,_,_,Rr7,ef hs,d.sub (List.nil_sublist _)⟩,?_⟩
          exact .inr (A7 g a d rfl (ln d a) SJ ow)
         have z:=hs.1
         refine DU (Do [] _) ?_ (Bg _ _)
         apply Bl;simp +decide only [go_sem,Nat.reduceAdd]
         (repeat' apply Aa)<;>first | refine f _ _ _ ⟨⟨B++[a0.cs,[.val (.int .i64 0)],[.val .nilFunc,.clo 108 [],.clo 110 [],.clo 111 [],.clo 113 [],.clo 116 [],.clo 117 [],.clo 118 [],.clo 119 [],.clo 120 [],.clo 121 []],[.val (.int .i64 (c+1))],a0.cs],Rr7,L⟩,[b.2.cs],by first | rfl | (simp only [List.append_assoc,List.append_nil,List.cons_append,List.nil_append];done),⟨by simp,by first | exact Nat.le_refl _ | (have:=d.len;simp;omega),rfl⟩,rfl,⟨(c+1),Rr7,ef hs,d,h⟩,?_⟩ | exact cl
         exact .inr (A7 g a d rfl (ln d a) SJ ow)
        ·replace h:=AZ h hf57
         rcases Bool.eq_false_or_eq_true (decide (b.2.kind=7)) with hf62 | hf62
         ·replace h:=AY h hf62
          have U:b.2.kind=7:=of_decide_eq_true hf62
          have hs:=Aa hf28 hs
          have hs:=Aa hf30 hs
          have hs:=Aa hf35 hs
          have hs:=Aa hf40 hs
          have hs:=Aa hf46 hs
          have hs:=Aa hf52 hs
          have hs:=Aa hf57 hs
          have hs:=Aa hf62 hs
          have hs:=Aa U hs
          refine dk 7 2 1 [2,7] hs Iw ?_
          refine Ai _ (Vg w0 _ _ _ b.2) (hv hs) ?_
          refine dn hs e ?_
          clear e
          refine rg [2,7,44] hs ?_
          refine AL h hs (fun hs h=>?_) (fun hs h=>?_)
          ·have y:=hs.1
           refine rg [2] hs ?_
           apply A3;simp +decide only [go_sem,Nat.reduceAdd,j,k,m,o,p,hf28,hf30,hf35,hf40,hf46,hf52,hf57,hf62,U,y]
           have hgt:=Option.some.inj h;subst hgt
           refine f _ _ _ ⟨⟨B++[a0.cs,[.val (.int .i64 (FV b.2))],[.val .nilFunc,.clo 108 [],.clo 110 [],.clo 111 [],.clo 113 [],.clo 116 [],.clo 117 [],.clo 118 [],.clo 119 [],.clo 120 [],.clo 121 []],[.val (.int .i64 (c+1))],a0.cs],Rr7,L⟩,[b.2.cs],by first | rfl | (simp only [List.append_assoc,List.append_nil,List.cons_append,List.nil_append];done),⟨by simp,by first | exact Nat.le_refl _ | (have:=d.len;simp;omega),rfl⟩,rfl,⟨rfl,_,_,_,_,Rr7,ef hs,d.sub (List.nil_sublist _)⟩,?_⟩
           exact .inr (A7 g a d rfl (ln d a) SJ ow)
          have y:=hs.1
          refine DU (Do [] _) ?_ (Bg _ _)
          apply Bl;simp +decide only [go_sem,Nat.reduceAdd]
          (repeat' apply Aa)<;>first | refine f _ _ _ ⟨⟨B++[a0.cs,[.val (.int .i64 0)],[.val .nilFunc,.clo 108 [],.clo 110 [],.clo 111 [],.clo 113 [],.clo 116 [],.clo 117 [],.clo 118 [],.clo 119 [],.clo 120 [],.clo 121 []],[.val (.int .i64 (c+1))],a0.cs],Rr7,L⟩,[b.2.cs],by first | rfl | (simp only [List.append_assoc,List.append_nil,List.cons_append,List.nil_append];done),⟨by simp,by first | exact Nat.le_refl _ | (have:=d.len;simp;omega),rfl⟩,rfl,⟨(c+1),Rr7,ef hs,d,h⟩,?_⟩ | exact cl
          exact .inr (A7 g a d rfl (ln d a) SJ ow)
         ·replace h:=AZ h hf62
          rcases Bool.eq_false_or_eq_true (decide (b.2.kind=8)) with hf67 | hf67
          ·replace h:=AY h hf67
           have Q:b.2.kind=8:=of_decide_eq_true hf67
           have hs:=Aa hf28 hs
           have hs:=Aa hf30 hs
           have hs:=Aa hf35 hs
           have hs:=Aa hf40 hs
           have hs:=Aa hf46 hs
           have hs:=Aa hf52 hs
           have hs:=Aa hf57 hs
           have hs:=Aa hf62 hs
           have hs:=Aa hf67 hs
           have hs:=Aa Q hs
           refine dk 7 2 1 [2,7] hs Iw ?_
           refine Ai _ (Ve w0 _ _ _ b.2) (hv hs) ?_
           refine dn hs e ?_
           clear e
           refine rg [2,7,44] hs ?_
           refine AL h hs (fun hs h=>?_) (fun hs h=>?_)
           ·have ab:=hs.1
            refine rg [2] hs ?_
            apply A3;simp +decide only [go_sem,Nat.reduceAdd,j,k,m,o,p,hf28,hf30,hf35,hf40,hf46,hf52,hf57,hf62,hf67,Q,ab]
            have hgt:=Option.some.inj h;subst hgt
            refine f _ _ _ ⟨⟨B++[a0.cs,[.val (.int .i64 (FP b.2))],[.val .nilFunc,.clo 108 [],.clo 110 [],.clo 111 [],.clo 113 [],.clo 116 [],.clo 117 [],.clo 118 [],.clo 119 [],.clo 120 [],.clo 121 []],[.val (.int .i64 (c+1))],a0.cs],Rr7,L⟩,[b.2.cs],by first | rfl | (simp only [List.append_assoc,List.append_nil,List.cons_append,List.nil_append];done),⟨by simp,by first | exact Nat.le_refl _ | (have:=d.len;simp;omega),rfl⟩,rfl,⟨rfl,_,_,_,_,Rr7,ef hs,d.sub (List.nil_sublist _)⟩,?_⟩
            exact .inr (A7 g a d rfl (ln d a) SJ ow)
           have ab:=hs.1
           refine DU (Do [] _) ?_ (Bg _ _)
           apply Bl;simp +decide only [go_sem,Nat.reduceAdd]
           (repeat' apply Aa)<;>first | refine f _ _ _ ⟨⟨B++[a0.cs,[.val (.int .i64 0)],[.val .nilFunc,.clo 108 [],.clo 110 [],.clo 111 [],.clo 113 [],.clo 116 [],.clo 117 [],.clo 118 [],.clo 119 [],.clo 120 [],.clo 121 []],[.val (.int .i64 (c+1))],a0.cs],Rr7,L⟩,[b.2.cs],by first | rfl | (simp only [List.append_assoc,List.append_nil,List.cons_append,List.nil_append];done),⟨by simp,by first | exact Nat.le_refl _ | (have:=d.len;simp;omega),rfl⟩,rfl,⟨(c+1),Rr7,ef hs,d,h⟩,?_⟩ | exact cl
           exact .inr (A7 g a d rfl (ln d a) SJ ow)
          ·replace h:=AZ h hf67
           rcases Bool.eq_false_or_eq_true (decide (b.2.kind=9)) with hf72 | hf72
           ·replace h:=AY h hf72
            have N:b.2.kind=9:=of_decide_eq_true hf72
            obtain ⟨aq,ak,h⟩:=bind_some h
            have hs:=Aa hf28 hs
            have hs:=Aa hf30 hs
            have hs:=Aa hf35 hs
            have hs:=Aa hf40 hs
            have hs:=Aa hf46 hs
            have hs:=Aa hf52 hs
            have hs:=Aa hf57 hs
            have hs:=Aa hf62 hs
            have hs:=Aa hf67 hs
            have hs:=Aa hf72 hs
            have hs:=Aa N hs
            refine dk 7 2 1 [2,7] hs Iw ?_
            refine Ai _ (Xz w0 n _ _ _ b.2 _ ak) (hv hs) ?_
            refine dn hs e ?_
            clear e
            refine rg [2,7,44] hs ?_
            refine AL h hs (fun hs h=>?_) (fun hs h=>?_)
            ·have t:=hs.1
             refine rg [2] hs ?_
             apply A3;simp +decide only [go_sem,Nat.reduceAdd,j,k,m,o,p,hf28,hf30,hf35,hf40,hf46,hf52,hf57,hf62,hf67,hf72,N,t]
             have hgt:=Option.some.inj h;subst hgt
             refine f _ _ _ ⟨⟨B++[a0.cs,[.val (.int .i64 aq)],[.val .nilFunc,.clo 108 [],.clo 110 [],.clo 111 [],.clo 113 [],.clo 116 [],.clo 117 [],.clo 118 [],.clo 119 [],.clo 120 [],.clo 121 []],[.val (.int .i64 (c+1))],a0.cs],Rr7,L⟩,[b.2.cs],by first | rfl | (simp only [List.append_assoc,List.append_nil,List.cons_append,List.nil_append];done),⟨by simp,by first | exact Nat.le_refl _ | (have:=d.len;simp;omega),rfl⟩,rfl,⟨rfl,_,_,_,_,Rr7,ef hs,d.sub (List.nil_sublist _)⟩,?_⟩
             exact .inr (A7 g a d rfl (ln d a) SJ ow)
            have t:=hs.1
            refine DU (Do [] _) ?_ (Bg _ _)
            apply Bl;simp +decide only [go_sem,Nat.reduceAdd]
            (repeat' apply Aa)<;>first | refine f _ _ _ ⟨⟨B++[a0.cs,[.val (.int .i64 0)],[.val .nilFunc,.clo 108 [],.clo 110 [],.clo 111 [],.clo 113 [],.clo 116 [],.clo 117 [],.clo 118 [],.clo 119 [],.clo 120 [],.clo 121 []],[.val (.int .i64 (c+1))],a0.cs],Rr7,L⟩,[b.2.cs],by first | rfl | (simp only [List.append_assoc,List.append_nil,List.cons_append,List.nil_append];done),⟨by simp,by first | exact Nat.le_refl _ | (have:=d.len;simp;omega),rfl⟩,rfl,⟨(c+1),Rr7,ef hs,d,h⟩,?_⟩ | exact cl
            exact .inr (A7 g a d rfl (ln d a) SJ ow)
           ·replace h:=AZ h hf72
            rcases Bool.eq_false_or_eq_true (decide (b.2.kind=10)) with hf78 | hf78
            ·replace h:=AY h hf78
             have D:b.2.kind=10:=of_decide_eq_true hf78
             obtain ⟨ax,ae,h⟩:=bind_some h
             have hs:=Aa hf28 hs
             have hs:=Aa hf30 hs
             have hs:=Aa hf35 hs
             have hs:=Aa hf40 hs
             have hs:=Aa hf46 hs
             have hs:=Aa hf52 hs
             have hs:=Aa hf57 hs
             have hs:=Aa hf62 hs
             have hs:=Aa hf67 hs
             have hs:=Aa hf72 hs
             have hs:=Aa hf78 hs
             have hs:=Aa D hs
             refine dk 7 2 1 [2,7] hs Iw ?_
             refine Ai _ (Vi w0 _ _ _ b.2 _ ae) (hv hs) ?_
             refine dn hs e ?_
             clear e
             refine rg [2,7,44] hs ?_
             refine AL h hs (fun hs h=>?_) (fun hs h=>?_)
             ·have Z:=hs.1
              refine rg [2] hs ?_
              apply A3;simp +decide only [go_sem,Nat.reduceAdd,j,k,m,o,p,hf28,hf30,hf35,hf40,hf46,hf52,hf57,hf62,hf67,hf72,hf78,D,Z]
              have hgt:=Option.some.inj h;subst hgt
              refine f _ _ _ ⟨⟨B++[a0.cs,[.val (.int .i64 ax)],[.val .nilFunc,.clo 108 [],.clo 110 [],.clo 111 [],.clo 113 [],.clo 116 [],.clo 117 [],.clo 118 [],.clo 119 [],.clo 120 [],.clo 121 []],[.val (.int .i64 (c+1))],a0.cs],Rr7,L⟩,[b.2.cs],by first | rfl | (simp only [List.append_assoc,List.append_nil,List.cons_append,List.nil_append];done),⟨by simp,by first | exact Nat.le_refl _ | (have:=d.len;simp;omega),rfl⟩,rfl,⟨rfl,_,_,_,_,Rr7,ef hs,d.sub (List.nil_sublist _)⟩,?_⟩
              exact .inr (A7 g a d rfl (ln d a) SJ ow)
             have Z:=hs.1
             refine DU (Do [] _) ?_ (Bg _ _)
             apply Bl;simp +decide only [go_sem,Nat.reduceAdd]
             (repeat' apply Aa)<;>first | refine f _ _ _ ⟨⟨B++[a0.cs,[.val (.int .i64 0)],[.val .nilFunc,.clo 108 [],.clo 110 [],.clo 111 [],.clo 113 [],.clo 116 [],.clo 117 [],.clo 118 [],.clo 119 [],.clo 120 [],.clo 121 []],[.val (.int .i64 (c+1))],a0.cs],Rr7,L⟩,[b.2.cs],by first | rfl | (simp only [List.append_assoc,List.append_nil,List.cons_append,List.nil_append];done),⟨by simp,by first | exact Nat.le_refl _ | (have:=d.len;simp;omega),rfl⟩,rfl,⟨(c+1),Rr7,ef hs,d,h⟩,?_⟩ | exact cl
             exact .inr (A7 g a d rfl (ln d a) SJ ow)
            ·replace h:=AZ h hf78
             cases h
 ·rintro s la ⟨XB,XR,XL⟩ hXR ⟨c,Rr7,rfl,d,h⟩ _ _
  simp only at hXR
  subst hXR
  rw [List.drop_eq_nil_of_le (by rw [LG];exact Nat.le_refl _),B2] at h
  simp only [St.ext,St.push,List.append_assoc,List.append_nil]
  (repeat' apply Aa)<;>first | refine ai _ _ ?_ | exact cl
  clear ai
  refine Re (bs:=[a0.cs,[.val (.int .i64 0)],[.val .nilFunc,.clo 108 [],.clo 110 [],.clo 111 [],.clo 113 [],.clo 116 [],.clo 117 [],.clo 118 [],.clo 119 [],.clo 120 [],.clo 121 []],[.val (.int .i64 c)],a0.cs]) hN ao aw rfl q d ow ow ?_
  refine rg [2] hs ?_
  exact rt h hs q d
 ·rintro ex s la ⟨XB,XR,XL⟩ hXR ⟨rfl,z0,z2,z3,z4,rows,rfl,d⟩ _ _
  simp only at hXR
  subst hXR
  simp only [St.ext,St.push,List.append_assoc,List.append_nil]
  simp +decide only [go_sem,Nat.reduceAdd]
  (repeat' with_reducible apply Aa)<;>first | refine Zj8 q rfl d.pre ev ⟨?_,rfl⟩ | (intros;omega) | (intros;simp_all;done)
  first | rfl | (simp +decide only [go_sem,Nat.reduceAdd];done)
theorem XF {j:Nat}:((j+1:Nat):Int)-1=(j:Int):=by omega
theorem Zam {j:Nat}:decide (0<((j+1:Nat):Int))=true:=Ad (by omega)
theorem Zaq {k:Nat} (h:k<1000000000000):BV (k:Int):=by unfold BV;omega
def SG:Option ByteArray→List ByteArray→Int
 | _,[]=>0
 | none,x::r=>if E8 x=true then SG (some x) r else 12
 | some p,x::r=>if E8 x=true then (if DK x p=true then 7 else if Wq x p=true then 24 else SG (some x) r) else 12
def Zf (l:List (ByteArray × Vl)):Nat→Option ByteArray
 | 0=>none
 | i+1=>(l[i]?).map Prod.fst
theorem Zav (n:Nat) (v:Vl) (hl:(v.fields).length≤1000000000000) (hz:∀ p∈v.fields,p.1.size≤maxLen):∀ (k m i:Nat),i+k=(v.fields).length→k<m→Ej n v m i=some (SG (Zf (v.fields) i) (((v.fields).map Prod.fst).drop i))
 | k,0,i,_,h=>absurd h (Nat.not_lt_zero _)
 | 0,m+1,i,hi,_=>by
  rw [Ej,As,Ac (by omega)]
  simp only [Bool.false_eq_true,if_false,JS]
  rw [List.drop_eq_nil_of_le (by rw [List.length_map];omega)]
  cases Zf (v.fields) i<;>rfl
 | k+1,m+1,i,hi,hm=>by
  have a:i<(v.fields).length:=by omega
  have ih:=Zav n v hl hz k m (i+1) (by omega) (by omega)
  rw [Ej,As,Ad a]
  simp only [if_true,Ax a,Ab]
  rw [Ae (hz _ (List.getElem_mem a)),List.drop_eq_getElem_cons (by rw [List.length_map];omega),List.getElem_map]
  have c:Zf (v.fields) (i+1)=some (v.fields)[i].1:=by simp only [Zf,List.getElem?_eq_getElem a];rfl
  rw [c] at ih
  cases i with
  | zero =>
   simp only [Zf,SG]
   by_cases hb:E8 (v.fields)[0].1=true
   ·rw [Ae hb,hb]
    simp only [Bool.not_true,Bool.false_eq_true,if_false]
    rw [Af (by decide),Ae (Aw (by omega))]
    exact ih
   ·rw [Af hb,Bool.eq_false_iff.2 hb];rfl
  | succ j =>
   have b:j<(v.fields).length:=by omega
   have d:Zf (v.fields) (j+1)=some (v.fields)[j].1:=by simp only [Zf,List.getElem?_eq_getElem b];rfl
   rw [d]
   simp only [SG]
   by_cases hb:E8 (v.fields)[j+1].1=true
   ·rw [Ae hb,hb]
    simp only [Bool.not_true,Bool.false_eq_true,if_false,Zam,if_true,XF]
    have e:BV (j:Int):=Zaq (by omega)
    simp only [Ae e,Ax b,Ab]
    by_cases h1:DK (v.fields)[j+1].1 (v.fields)[j].1=true
    ·rw [Ae h1,Ae h1]
    ·rw [Af h1,Af h1]
     by_cases h2:Wq (v.fields)[j+1].1 (v.fields)[j].1=true
     ·rw [Ae h2,Ae h2]
     ·rw [Af h2,Af h2,Ae (Aw (by omega))]
      exact ih
   ·rw [Af hb,Bool.eq_false_iff.2 hb];rfl
def FK (v:Vl):Int :=
 if B1 v=true then 19
 else if v.kind<1∨10<v.kind then 11
 else if Dh v=true then 3
 else if v.kind=1 then (if CY v.int 0 1=true then 2 else 0)
 else if v.kind=2 then (if CY v.int (-999999999999999) 999999999999999=true∨CY v.scale 0 12=true then 2 else 0)
 else if v.kind=3 then (if CY v.int (-999999999999999) 999999999999999=true∨CY v.scale 0 12=true then 2 else 0)
 else if v.kind=4 then (if 1024<v.text.size then 5 else if Lib.validD v.text.data.toList=true then 0 else 16)
 else if v.kind=5 then (if 1024<v.text.size then 5 else 0)
 else if v.kind=6 then (if CY v.int (-719162) 2932896=true then 2 else 0)
 else if v.kind=7 then (if CY v.int (-62135596800000) 253402300799999=true then 2 else 0)
 else if v.kind=8 then (if 256<v.list.length then 9 else 0)
 else if v.kind=9 then (if 64<v.fields.length then 9 else SG none (v.fields.map Prod.fst))
 else if E8 v.text=true then (if v.list.length=0 then 4 else if 1<v.list.length then 3 else 0) else 12
theorem HC {k:Int} (h:¬ (k<1∨10<k)):k=1∨k=2∨k=3∨k=4∨k=5∨k=6∨k=7∨k=8∨k=9∨k=10:=by omega
theorem Zfr (v:Vl) (h:¬ (v.kind<1∨10<v.kind)):LW v = !Dh v:=by
 have a:∀ x:Nat,decide (0<(x:Int)) = !decide ((x:Int)=0):=fun x=>by
  by_cases h:x=0
  ·subst h;rfl
  ·rw [Ad (show 0<(x:Int) by omega),Ac (show ¬ (x:Int)=0 by omega)];rfl
 rw [LW,Dh]
 simp only [a]
 rcases HC h with hk | hk | hk | hk | hk | hk | hk | hk | hk | hk<;>simp only [hk]<;>simp [Bool.and_assoc]
theorem ZgQ (n:Nat) (hn:3≤n) (a b:Int):LP n [a,b]=some (if a=0 then b else a):=by
 obtain ⟨m,rfl⟩:∃ m,n=m+3:=⟨n-3,by omega⟩
 rw [LP,HT]
 simp only [List.length_cons,List.length_nil]
 rw [Ae (by simp),show Cb [a,b] 0=some a from rfl]
 simp only [Ab]
 by_cases h:a=0
 ·rw [Ad h,Af (by decide),Ae (by decide),Ae h,HT]
  simp only [List.length_cons,List.length_nil]
  rw [Ae (by simp),show Cb [a,b] (0+1)=some b from rfl]
  simp only [Ab]
  by_cases h2:b=0
  ·rw [Ad h2,Af (by decide),Ae (by decide),HT]
   simp only [List.length_cons,List.length_nil]
   rw [Af (by simp),Nu,h2]
  ·rw [Ac h2,Ae (by decide)]
 ·rw [Ac h,Ae (by decide),Af h]
theorem ZbZ (n:Nat) (hn:3≤n) (v:Vl) (hfl:v.fields.length<n) (hs:v.fields.length≤1000000000000) (hv:v.ok) (h1:¬ B1 v=true) (h2:¬ (v.kind<1∨10<v.kind)) (h3:¬ Dh v=true) :
  (v.kind=1→FR v=FK v)∧(v.kind=2→FT v=FK v)∧(v.kind=3→Jf n v=some (FK v))∧(v.kind=4→Jh v=some (FK v))∧(v.kind=5→FU v=FK v) ∧
  (v.kind=6→FX v=FK v)∧(v.kind=7→FV v=FK v)∧(v.kind=8→FP v=FK v)∧(v.kind=9→Jv n v=some (FK v))∧(v.kind=10→Ig v=some (FK v)):=by
 obtain ⟨i,_,f⟩:=v.ok_eq.1 hv
 have g:∀ p∈v.fields,p.1.size≤maxLen:=fun p d=>Tm (by have:=(f p d).1;omega)
 have c:v.text.size≤maxLen:=Tm i
 rw [FK,Af h1,Af h2,Af h3]
 refine ⟨fun a=>?_,fun a=>?_,fun a=>?_,fun a=>?_,fun a=>?_,fun a=>?_,fun a=>?_,fun a=>?_,fun a=>?_,fun a=>?_⟩
 ·simp [a,FR,BX,CY]
 ·have b:v.scale=0:=by
   rw [Dh] at h3
   simp [a] at h3
   exact h3.1.1.1
  simp [a,b,FT,BX,CY]
 ·rw [Jf,ZgQ n hn]
  simp [a,BX,CY]
  by_cases q:v.int < -999999999999999∨999999999999999<v.int
  ·simp [q];omega
  ·simp [q];omega
 ·rw [Jh]
  simp only [a,Dc,Hh,Ae c]
  simp
  (repeat' split)<;>first | rfl | (exfalso;omega) | simp_all
 ·simp [a,FU,Dc]
  (repeat' split)<;>first | rfl | (exfalso;omega) | simp_all
 ·simp [a,FX,BX,CY]
 ·simp [a,FV,BX,CY]
 ·simp [a,FP,Dc]
  (repeat' split)<;>first | rfl | (exfalso;omega) | simp_all
 ·rw [Jv]
  by_cases h:64<v.fields.length
  ·simp [a,Dc,h,show (64:Int)<(v.fields.length:Int) by omega]
  ·have e:=Zav n v hs g v.fields.length n 0 (by omega) hfl
   simp only [List.drop_zero] at e
   simp only [a,Dc,Ac (show ¬ (64:Int)<(v.fields.length:Int) by omega),Bool.false_eq_true,if_false,decide_true,Bool.not_true,Af h]
   exact e
 ·rw [Ig,Ae c]
  simp only [a,Dc]
  simp
  (repeat' split)<;>first | rfl | (exfalso;omega) | simp_all
theorem ZfN (n:Nat) (hn:3≤n) (lv:Nat) (v:Vl) (rest:List (Nat × Vl)) (c:Int) (hfl:v.fields.length<n) (hs:v.fields.length≤1000000000000) (hv:v.ok) :
  B2 n ((lv,v)::rest) c=if BV (c+1) then (if 4096<c+1 then some 9 else if 8<(lv:Int) then some 23 else if FK v=0 then B2 n rest (c+1) else some (FK v)) else none:=by
 rw [B2]
 by_cases hI:BV (c+1)
 rotate_left
 ·rw [Af hI,Af hI]
 rw [Ae hI,Ae hI]
 by_cases q1:4096<c+1
 ·rw [Ae q1,Ae (Ad q1)]
 rw [Af q1,Af (by simpa using q1)]
 by_cases q2:8<(lv:Int)
 ·rw [Ae q2,Ae (Ad q2)]
 rw [Af q2,Af (by simpa using q2)]
 simp only
 by_cases h1:B1 v=true
 ·have:FK v=19:=by rw [FK,Ae h1]
  rw [Ae h1,this];rfl
 rw [Af h1]
 by_cases h2:v.kind<1∨10<v.kind
 ·have:FK v=11:=by rw [FK,Af h1,Ae h2]
  rw [Ae (by simpa using h2),this];rfl
 rw [Af (by simpa using h2),Zfr v h2]
 by_cases h3:Dh v=true
 ·have:FK v=3:=by rw [FK,Af h1,Af h2,Ae h3]
  rw [h3,this];rfl
 rw [Bool.eq_false_iff.2 h3]
 obtain ⟨g,b,d,k,j,h,l,f,i,a⟩:=ZbZ n hn v hfl hs hv h1 h2 h3
 rcases HC h2 with hk | hk | hk | hk | hk | hk | hk | hk | hk | hk
 ·have e:=g hk;by_cases z:FK v=0<;>simp [hk,e,z]
 ·have e:=b hk;by_cases z:FK v=0<;>simp [hk,e,z]
 ·have e:=d hk;by_cases z:FK v=0<;>simp [hk,e,z]
 ·have e:=k hk;by_cases z:FK v=0<;>simp [hk,e,z]
 ·have e:=j hk;by_cases z:FK v=0<;>simp [hk,e,z]
 ·have e:=h hk;by_cases z:FK v=0<;>simp [hk,e,z]
 ·have e:=l hk;by_cases z:FK v=0<;>simp [hk,e,z]
 ·have e:=f hk;by_cases z:FK v=0<;>simp [hk,e,z]
 ·have e:=i hk;by_cases z:FK v=0<;>simp [hk,e,z]
 ·have e:=a hk;by_cases z:FK v=0<;>simp [hk,e,z]
def RX:List (Nat × Vl)→Int→Int
 | [],_=>0
 | p::r,c=>if 4096<c+1 then 9 else if 8<(p.1:Int) then 23 else if FK p.2=0 then RX r (c+1) else FK p.2
def NZ (v:Vl):Int:=RX (Fa 1 v) 0
theorem OY {v x:Vl} (h:x∈BL v):x∈v.list∨∃ p∈v.fields,p.2=x:=by
 unfold BL at h
 split at h
 ·exact .inl h
 ·split at h
  ·obtain ⟨p,a,rfl⟩:=List.mem_map.1 h;exact .inr ⟨p,a,rfl⟩
  ·simp at h
theorem IV {v x:Vl} (h:x∈BL v):x.size<v.size:=by
 rcases OY h with h | ⟨p,hp,rfl⟩
 ·exact v.list_size x h
 ·exact v.field_size p hp
theorem Zdl {v x:Vl} (hv:v.ok) (h:x∈BL v):x.ok:=by
 obtain ⟨_,a,b⟩:=v.ok_eq.1 hv
 rcases OY h with h | ⟨p,hp,rfl⟩
 ·exact a x h
 ·exact (b p hp).2
theorem ZcE:∀ (k:Nat) (v:Vl) (lv:Nat),v.size≤k→v.ok→∀ p∈Fa lv v,p.2.ok∧p.2.size≤v.size
 | 0,v,lv,h,hv,p,hp=>absurd h (by have:=v.size_eq;omega)
 | k+1,v,lv,h,hv,p,hp=>by
  rw [ML] at hp
  rcases List.mem_cons.1 hp with rfl | hp
  ·exact ⟨hv,Nat.le_refl _⟩
  ·obtain ⟨x,a,hp⟩:=List.mem_flatMap.1 hp
   have:=IV a
   obtain ⟨b,c⟩:=ZcE k x (lv+1) (by omega) (Zdl hv a) p hp
   exact ⟨b,by omega⟩
theorem YR:∀ (k:Nat) (v:Vl) (lv:Nat),v.size≤k→v.wide=true→∀ p∈Fa lv v,p.2.wide=true
 | 0,v,lv,h,hv,p,hp=>absurd h (by have:=v.size_eq;omega)
 | k+1,v,lv,h,hv,p,hp=>by
  rw [ML] at hp
  rcases List.mem_cons.1 hp with rfl | hp
  ·exact hv
  ·obtain ⟨x,a,hp⟩:=List.mem_flatMap.1 hp
   have:=IV a
   exact YR k x (lv+1) (by omega) (Vs hv a) p hp
theorem OQ (v:Vl):v.fields.length<v.size:=by have:=MY v.fields;have:=v.size_eq;omega
theorem Rz (n:Nat) (hn:3≤n):∀ (l:List (Nat × Vl)) (c:Int),(∀ p∈l,p.2.ok∧p.2.fields.length≤1000000000000∧p.2.fields.length<n)→0≤c→c≤4096→B2 n l c=some (RX l c)
 | [],c,_,_,_=>rfl
 | p::r,c,hl,h1,h2=>by
  obtain ⟨b,d,e⟩:=hl p (List.mem_cons_self ..)
  have:=OQ p.2
  rw [show p=(p.1,p.2) from rfl,ZfN n hn p.1 p.2 r c (by omega) (by omega) b,Ae (by unfold BV;omega),RX]
  simp only
  split
  ·rfl
  ·split
   ·rfl
   ·split
    ·exact Rz n hn r (c+1) (fun q a=>hl q (List.mem_cons_of_mem _ a)) (by omega) (by omega)
    ·rfl
theorem Z2 (n:Nat) (v:Vl) (hn:v.size+3≤n) (hs:v.depth<4611686018427387904) (hw:v.wide=true) (hv:v.ok):EX n v=some (NZ v):=by
 rw [EX,Ae ⟨hs,hw⟩]
 exact Rz n (by omega) _ 0 (fun p a=>by obtain ⟨b,c⟩:=ZcE v.size v 1 (Nat.le_refl _) hv p a;exact ⟨b,(p.2.wide_iff.1 (YR v.size v 1 (Nat.le_refl _) hw p a)).2.1,by have:=OQ p.2;omega⟩) (by omega) (by omega)
theorem VF (n:Nat) (v:Vl) (hn:v.size+3≤n) (hs:v.size<1048576) (hv:v.ok):EX n v=some (NZ v) :=
 Z2 n v hn (by have:=v.depth_size;omega) (G3 _ v (Nat.le_refl _) (by omega)) hv
theorem T9:∀ l:List Vl,GF l=(l.map Vl.size).sum
 | []=>rfl
 | v::r=>by simp [GF,T9 r]
theorem TU:∀ l:List (ByteArray × Vl),F9 l=(l.map fun p=>p.2.size).sum
 | []=>rfl
 | (_,v)::r=>by simp [F9,TU r]
theorem Za8 (v:Vl):((BL v).map Vl.size).sum<v.size:=by
 have c:=v.size_eq
 unfold BL
 split
 ·rw [←T9];omega
 ·split
  ·rw [List.map_map]
   have:=TU v.fields
   have e:(v.fields.map (Vl.size∘fun x=>x.2)).sum=F9 v.fields:=this.symm
   omega
  ·simp;omega
theorem Ss (l:List Ty) (i:Nat) (h:i<l.length):GP (l.drop i)=l[i].size+GP (l.drop (i+1)):=by rw [List.drop_eq_getElem_cons h,GP]
theorem Qk (l:List TF) (i:Nat) (h:i<l.length):EK (l.drop i)=l[i].2.2.2.1.size+EK (l.drop (i+1)):=by
 rw [List.drop_eq_getElem_cons h]
 obtain ⟨a,b,c,t,d⟩:=l[i]
 rfl
def Ty.small (t:Ty):Prop:=t.size≤200∧t.depth≤12∧t.ok
def J7 (rec:Ty→Vl→Option Bool) (q:Vl) (b:Ty):Option Bool :=
 (Cb b.elem 0).bind fun g =>
 (rec g q).bind fun h =>
 some (!h)
theorem ZE (w0:World) (rec:Ty→Vl→Option Bool) (ih:∀ (B:List (List AV)) (Rw:List RowA) (L:List LoopA) (a0:Ty) (a1:Vl) (r:Bool) (h:rec a0 a1=some r),ACalls Tryz.prog w0 107 [.agg (a0.cs),.agg (a1.cs)] ⟨B,Rw,L⟩ fun x st=>x = .val (.bool r)∧st=⟨B,Rw,L⟩) (B:List (List AV)) (Rw:List RowA) (L:List LoopA) (a0:Vl) (la1:Nat) (a1:Ty) (hla1:B[la1]? = some (a1.cs)) (r:Bool) (h:J7 rec a0 a1=some r) :
  ACalls Tryz.prog w0 183 [.agg (a0.cs),.box la1 0] ⟨B,Rw,L⟩ fun x st=>x = .val (.bool r)∧st=⟨B,Rw,L⟩:=by
 rw [J7] at h
 refine hd [.tmp 3] Tryz.func183 Tryz.ntmps183 fun M0 W0 t o n b q m hs=>?_
 simp only [Au]
 have g:=(Ag.1 hla1).1
 have hs:=Aa (An hla1) hs
 refine rg [1,2] hs ?_
 obtain ⟨p,j,h⟩:=bind_some h
 obtain ⟨k,l,d⟩:=AA j
 have a:=AB (f:=Ia) d
 have c:(a1.elem.map Ia).getD 0 .junk=_:=a
 obtain ⟨s,i,h⟩:=bind_some h
 have hs:=Aa a hs
 have hs:=Aa c hs
 apply Ah;intro K2 e
 refine dk 8 2 1 [3] hs Iw ?_
 refine Ai _ (ih _ _ _ p a0 _ i) (hv hs) ?_
 refine dn hs e ?_
 clear e
 exact rt h hs b m
def Gv (n:Nat)  : Option Int :=
 some ((-1))
def BF (n:Nat) (q:List (ByteArray × Vl)) (s:(ByteArray × Vl)→Option Bool):Nat→Int→Option Int
 | 0,_=>none
 | m+1,b =>
  if decide (b<(q.length:Int)) then
   (Cb q b).bind fun g =>
   (s g).bind fun h =>
   if h then
    some (b)
   else
    if BV (b+1) then
     (BF n q s m) (b+1)
    else none
  else
   Gv n 
def Ce (n:Nat) (g:List (ByteArray × Vl)) (b:(ByteArray × Vl)→Option Bool):Option Int :=
 BF n g b n 0
theorem Iz (w0:World) (n:Nat) (B:List (List AV)) (Rw:List RowA) (L:List LoopA) (a0:List (ByteArray × Vl)) (fa1:FuncId) (ca1:List AV) (a1:(ByteArray × Vl)→Option Bool) (ha1:∀ (x0:ByteArray × Vl) r,a1 x0=some r→∀ B' rows,B <+: B'→Rw <+: rows→ACalls Tryz.prog w0 fa1 ([.agg (.val (.string x0.1)::(x0.2.cs))]++ca1) ⟨B',rows,L⟩ fun v s=>v = .val (.bool r)∧s=⟨B',rows,L⟩) (r:Int) (h:Ce n a0 a1=some r) :
  ACalls Tryz.prog w0 67 [.list (a0.map B9) .none,.clo fa1 ca1] ⟨B,Rw,L⟩ fun x st=>x = .val (.int .i64 r)∧st=⟨B,Rw,L⟩:=by
 rw [Ce] at h
 refine hd [.tmp 4] Tryz.func67 Tryz.ntmps67 fun M0 W0 C l q c E d hs=>?_
 simp only [Au]
 have a:=Ci (E (.clo fa1 ca1) (by simp))
 refine rg [0,1] hs ?_
 refine Av (fun e st=>Ck e st B Rw L [] [] [] (Gv n  = some r)) ?_ ?_
 ·intro K4 y
  refine rg [0,1,7,8] hs ?_
  apply Ak
  refine AC (fun m e st=>∃ (b:Int),Ck e st B Rw L [(0,true,.list (a0.map B9) .none),(1,true,.clo fa1 ca1),(7,true,.val (.int .i64 (a0.length:Int))),(8,true,.val (.int .i64 b))] [] [] (BF n a0 a1 m b=some r)) n ⟨0,([]),Rw,ef hs,ef hs,d,h⟩ ?_
  rintro ml6 e st ⟨b,Xl6,Rl6,rfl,rfl,d,h⟩ Ul6 Vl6
  cases ml6 with
  | zero=>cases h
  | succ ml6 =>
  rw [BF] at h
  refine AP C l q rfl c d (I5 a d) (I5 a d) ?_
  refine rg [0,1,7,8,9] hs ?_
  apply Ah;intro K8 p
  refine AL h hs (fun hs h=>?_) (fun hs h=>?_)
  rotate_left
  ·refine sx [] hs y ?_
   exact ⟨([]),Rl6,ef hs,ef hs,d,h⟩
  refine sk [0,1,7,8] hs p ?_
  clear p
  apply Ah;intro K10 g
  apply Ak
  refine rg [0,1,5,7,8] hs ?_
  obtain ⟨z,t,h⟩:=bind_some h
  obtain ⟨w,u,k⟩:=AA t
  have j:=AB (f:=B9) k
  obtain ⟨F,o,h⟩:=bind_some h
  have hs:=Aa j hs
  refine rc 2 [0,1,5,7,8,16] hs ?_;intro K12 i
  refine F6 _ (ha1 z _ o _ _ px d.pre) (hv hs) ?_
  refine ne hs i ?_
  clear i
  refine AL h hs (fun hs h=>?_) (fun hs h=>?_)
  ·refine rg [4] hs ?_
   exact rt h hs c d
  refine sk [0,1,7,8] hs g ?_
  clear g
  obtain ⟨D,h⟩:=Aj h
  refine rl [0,1,7,8] hs (fun e s=>Vl6 ml6 e s (Nat.lt_succ_self _)) ?_
  exact ⟨(b+1),([]),Rl6,ef hs,ef hs,d,h⟩
 ·clear h;rintro e st ⟨Xk3,Rk3,rfl,rfl,d,h⟩
  rw [Gv] at h
  refine AP C l q rfl c d (I5 a d) (I5 a d) ?_
  refine rg [4] hs ?_
  exact rt h hs c d
def GM (g:ByteArray × Vl) (b:ByteArray):Bool :=
 DK g.1 b
theorem Xe (w0:World) (B:List (List AV)) (Rw:List RowA) (L:List LoopA) (a0:ByteArray × Vl) (la1:Nat) (a1:ByteArray) (hla1:B[la1]? = some ([.val (.string a1)])) (r:Bool) (h:GM a0 a1=r) :
  ACalls Tryz.prog w0 124 [.agg (.val (.string a0.1)::(a0.2.cs)),.box la1 0] ⟨B,Rw,L⟩ fun x st=>x = .val (.bool r)∧st=⟨B,Rw,L⟩:=by
 rw [GM] at h
 refine hd [.tmp 3] Tryz.func124 Tryz.ntmps124 fun M0 W0 g e d a f c hs=>?_
 simp only [Au]
 have b:=(Ag.1 hla1).1
 have hs:=Aa (An hla1) hs
 refine rg [1,2] hs ?_
 refine rg [3] hs ?_
 exact rT h hs a c
theorem Vj (w0:World) (B:List (List AV)) (Rw:List RowA) (L:List LoopA) (a0:ByteArray × Vl) (la1:Nat) (a1:ByteArray) (hla1:B[la1]? = some ([.val (.string a1)])) :
  ACalls Tryz.prog w0 124 [.agg (.val (.string a0.1)::(a0.2.cs)),.box la1 0] ⟨B,Rw,L⟩ fun x st=>x = .val (.bool (GM a0 a1))∧st=⟨B,Rw,L⟩:=Xe w0 B Rw L a0 la1 a1 hla1 _ rfl
def ME (n:Nat) (q:Vl) (b:ByteArray):Option Int :=
 (Ce n q.fields (fun (g:ByteArray × Vl)=>some (GM g b))).bind fun h =>
 some (h)
theorem ZH (w0:World) (n:Nat) (B:List (List AV)) (Rw:List RowA) (L:List LoopA) (a0:Vl) (a1:ByteArray) (r:Int) (h:ME n a0 a1=some r) :
  ACalls Tryz.prog w0 64 [.agg (a0.cs),.val (.string a1)] ⟨B,Rw,L⟩ fun x st=>x = .val (.int .i64 r)∧st=⟨B,Rw,L⟩:=by
 rw [ME] at h
 refine hd [.tmp 4] Tryz.func64 Tryz.ntmps64 fun M0 W0 k f e a j d hs=>?_
 simp only [Au]
 refine rg [2,3] hs ?_
 obtain ⟨l,hy3,h⟩:=bind_some h
 refine rc 2 [4] hs ?_;intro K2 b
 refine Ai _ (Iz w0 n _ _ _ a0.fields 124 [.box (B.length+1) 0] (fun (x0:ByteArray × Vl)=>some (GM x0 a1)) (fun x0 r hx i c hB' g=>by cases hx;exact Vj w0 _ _ _ x0 _ a1 (DI hB' ev)) _ hy3) (hv hs) ?_
 refine ne hs b ?_
 clear b
 exact rt h hs a d
def G5 (n:Nat) (g:Vl) (q:ByteArray):Option (Vl × Bool) :=
 (ME n g q).bind fun h =>
 if (!(decide (g.kind=9)))||(decide (h<0)) then
  some ((Vl.mk 0 0 0 ((⟨#[]⟩:ByteArray)) ([]) ([]),false))
 else
  (Cb g.fields h).bind fun s =>
  (BN n s.2).bind fun b =>
  some ((b,true))
theorem PH (w0:World) (n:Nat) (B:List (List AV)) (Rw:List RowA) (L:List LoopA) (a0:Vl) (a1:ByteArray) (r:Vl × Bool) (h:G5 n a0 a1=some r) :
  ACalls Tryz.prog w0 185 [.agg (a0.cs),.val (.string a1)] ⟨B,Rw,L⟩ fun x st=>x = .tup [.agg (r.1.cs),.val (.bool r.2)]∧st=⟨B,Rw,L⟩:=by
 rw [G5] at h
 refine hd [.cell 4 46,.tmp 5] Tryz.func185 Tryz.ntmps185 fun M0 W0 u p s a v l hs=>?_
 simp only [Au]
 refine rg [1,2,4] hs ?_
 obtain ⟨w,k,h⟩:=bind_some h
 refine rc 2 [2,4,6] hs ?_;intro K2 i
 refine Ai _ (ZH w0 n _ _ _ a0 a1 _ k) (hv hs) ?_
 refine ne hs i ?_
 clear i
 apply Ah;intro K4 g
 refine rg [2,4,6,16] hs ?_
 refine AL h hs (fun hs h=>?_) (fun hs h=>?_)
 ·refine rg [4,5] hs ?_
  exact rt h hs a l
 refine sk [2,4,6] hs g ?_
 clear g
 obtain ⟨t,j,h⟩:=bind_some h
 obtain ⟨m,o,c⟩:=AA j
 have d:=AB (f:=B9) c
 obtain ⟨q,b,h⟩:=bind_some h
 have hs:=Aa d hs
 refine rc 2 [4,5] hs ?_;intro K8 e
 refine Ai _ (GO w0 n _ _ _ t.2 _ b) (hv hs) ?_
 refine ne hs e ?_
 clear e
 exact rt h hs a l
def J2 (n:Nat) (b:Int × ByteArray × Int × Ty × List Vl) (g:Vl):Option Bool :=
 (G5 n g b.2.1).bind fun h =>
 some ((!h.2)&&(!(decide (b.2.2.1=2))))
theorem Zn (w0:World) (n:Nat) (B:List (List AV)) (Rw:List RowA) (L:List LoopA) (a0:Int × ByteArray × Int × Ty × List Vl) (la1:Nat) (a1:Vl) (hla1:B[la1]? = some (a1.cs)) (r:Bool) (h:J2 n a0 a1=some r) :
  ACalls Tryz.prog w0 184 [.agg (.val (.int .i64 a0.1)::(.val (.string a0.2.1)::(.val (.int .i64 a0.2.2.1)::((a0.2.2.2.1.cs)++([.list (a0.2.2.2.2.map Bo) .none]))))),.box la1 0] ⟨B,Rw,L⟩ fun x st=>x = .val (.bool r)∧st=⟨B,Rw,L⟩:=by
 rw [J2] at h
 refine hd [.tmp 3] Tryz.func184 Tryz.ntmps184 fun M0 W0 k g f a i e hs=>?_
 simp only [Au]
 have c:=(Ag.1 hla1).1
 have hs:=Aa (An hla1) hs
 refine rg [1,2] hs ?_
 obtain ⟨j,d,h⟩:=bind_some h
 refine rc 2 [2,5] hs ?_;intro K2 b
 refine Ai _ (PH w0 n _ _ _ a1 a0.2.1 _ d) (hv hs) ?_
 refine ne hs b ?_
 clear b
 refine rg [3] hs ?_
 exact rt h hs a e
def AD (n:Nat) (h:List (Int × ByteArray × Int × Ty × List Vl)) (b:(Int × ByteArray × Int × Ty × List Vl)→Option Bool):Option Bool :=
 (AW n h b).bind fun g =>
 some (decide (0≤g))
theorem BS (w0:World) (n:Nat) (B:List (List AV)) (Rw:List RowA) (L:List LoopA) (a0:List (Int × ByteArray × Int × Ty × List Vl)) (fa1:FuncId) (ca1:List AV) (a1:(Int × ByteArray × Int × Ty × List Vl)→Option Bool) (ha1:∀ (x0:Int × ByteArray × Int × Ty × List Vl) r,a1 x0=some r→∀ B' rows,B <+: B'→Rw <+: rows→ACalls Tryz.prog w0 fa1 ([.agg (.val (.int .i64 x0.1)::(.val (.string x0.2.1)::(.val (.int .i64 x0.2.2.1)::((x0.2.2.2.1.cs)++([.list (x0.2.2.2.2.map Bo) .none])))))]++ca1) ⟨B',rows,L⟩ fun v s=>v = .val (.bool r)∧s=⟨B',rows,L⟩) (r:Bool) (h:AD n a0 a1=some r) :
  ACalls Tryz.prog w0 150 [.list (a0.map Da) .none,.clo fa1 ca1] ⟨B,Rw,L⟩ fun x st=>x = .val (.bool r)∧st=⟨B,Rw,L⟩:=by
 rw [AD] at h
 refine hd [.tmp 4] Tryz.func150 Tryz.ntmps150 fun M0 W0 q l j b i g hs=>?_
 simp only [Au]
 have d:=Ci (i (.clo fa1 ca1) (by simp))
 refine rg [0,1] hs ?_
 obtain ⟨p,e,h⟩:=bind_some h
 refine rc 2 [4] hs ?_;intro K2 c
 refine Ai _ (DC w0 n _ _ _ a0 fa1 ca1 a1 (fun x0 r o f a m k=>ha1 x0 r o f a (List.IsPrefix.trans px m) (g.pre.trans k)) _ e) (hv hs) ?_
 refine ne hs c ?_
 clear c
 exact rt h hs b g
def Gu (n:Nat)  : Option Int :=
 some ((-1))
def B6 (n:Nat) (q:List Vl) (s:Vl→Option Bool):Nat→Int→Option Int
 | 0,_=>none
 | m+1,b =>
  if decide (b<(q.length:Int)) then
   (Cb q b).bind fun g =>
   (s g).bind fun h =>
   if h then
    some (b)
   else
    if BV (b+1) then
     (B6 n q s m) (b+1)
    else none
  else
   Gu n 
def E1 (n:Nat) (g:List Vl) (b:Vl→Option Bool):Option Int :=
 B6 n g b n 0
theorem NK (w0:World) (n:Nat) (B:List (List AV)) (Rw:List RowA) (L:List LoopA) (a0:List Vl) (fa1:FuncId) (ca1:List AV) (a1:Vl→Option Bool) (ha1:∀ (x0:Vl) r,a1 x0=some r→∀ B' rows,B <+: B'→Rw <+: rows→ACalls Tryz.prog w0 fa1 ([.agg (x0.cs)]++ca1) ⟨B',rows,L⟩ fun v s=>v = .val (.bool r)∧s=⟨B',rows,L⟩) (r:Int) (h:E1 n a0 a1=some r) :
  ACalls Tryz.prog w0 225 [.list (a0.map Bo) .none,.clo fa1 ca1] ⟨B,Rw,L⟩ fun x st=>x = .val (.int .i64 r)∧st=⟨B,Rw,L⟩:=by
 rw [E1] at h
 refine hd [.tmp 4] Tryz.func225 Tryz.ntmps225 fun M0 W0 C l q c E d hs=>?_
 simp only [Au]
 have a:=Ci (E (.clo fa1 ca1) (by simp))
 refine rg [0,1] hs ?_
 refine Av (fun e st=>Ck e st B Rw L [] [] [] (Gu n  = some r)) ?_ ?_
 ·intro K4 y
  refine rg [0,1,7,8] hs ?_
  apply Ak
  refine AC (fun m e st=>∃ (b:Int),Ck e st B Rw L [(0,true,.list (a0.map Bo) .none),(1,true,.clo fa1 ca1),(7,true,.val (.int .i64 (a0.length:Int))),(8,true,.val (.int .i64 b))] [] [] (B6 n a0 a1 m b=some r)) n ⟨0,([]),Rw,ef hs,ef hs,d,h⟩ ?_
  rintro ml6 e st ⟨b,Xl6,Rl6,rfl,rfl,d,h⟩ Ul6 Vl6
  cases ml6 with
  | zero=>cases h
  | succ ml6 =>
  rw [B6] at h
  refine AP C l q rfl c d (I5 a d) (I5 a d) ?_
  refine rg [0,1,7,8,9] hs ?_
  apply Ah;intro K8 p
  refine AL h hs (fun hs h=>?_) (fun hs h=>?_)
  rotate_left
  ·refine sx [] hs y ?_
   exact ⟨([]),Rl6,ef hs,ef hs,d,h⟩
  refine sk [0,1,7,8] hs p ?_
  clear p
  apply Ah;intro K10 g
  apply Ak
  refine rg [0,1,5,7,8] hs ?_
  obtain ⟨z,t,h⟩:=bind_some h
  obtain ⟨w,u,k⟩:=AA t
  have j:=AB (f:=Bo) k
  obtain ⟨F,o,h⟩:=bind_some h
  have hs:=Aa j hs
  refine rc 2 [0,1,5,7,8,16] hs ?_;intro K12 i
  refine F6 _ (ha1 z _ o _ _ px d.pre) (hv hs) ?_
  refine ne hs i ?_
  clear i
  refine AL h hs (fun hs h=>?_) (fun hs h=>?_)
  ·refine rg [4] hs ?_
   exact rt h hs c d
  refine sk [0,1,7,8] hs g ?_
  clear g
  obtain ⟨D,h⟩:=Aj h
  refine rl [0,1,7,8] hs (fun e s=>Vl6 ml6 e s (Nat.lt_succ_self _)) ?_
  exact ⟨(b+1),([]),Rl6,ef hs,ef hs,d,h⟩
 ·clear h;rintro e st ⟨Xk3,Rk3,rfl,rfl,d,h⟩
  rw [Gu] at h
  refine AP C l q rfl c d (I5 a d) (I5 a d) ?_
  refine rg [4] hs ?_
  exact rt h hs c d
def Dj (n:Nat) (h:List Vl) (b:Vl→Option Bool):Option Bool :=
 (E1 n h b).bind fun g =>
 some (decide (0≤g))
theorem LN (w0:World) (n:Nat) (B:List (List AV)) (Rw:List RowA) (L:List LoopA) (a0:List Vl) (fa1:FuncId) (ca1:List AV) (a1:Vl→Option Bool) (ha1:∀ (x0:Vl) r,a1 x0=some r→∀ B' rows,B <+: B'→Rw <+: rows→ACalls Tryz.prog w0 fa1 ([.agg (x0.cs)]++ca1) ⟨B',rows,L⟩ fun v s=>v = .val (.bool r)∧s=⟨B',rows,L⟩) (r:Bool) (h:Dj n a0 a1=some r) :
  ACalls Tryz.prog w0 182 [.list (a0.map Bo) .none,.clo fa1 ca1] ⟨B,Rw,L⟩ fun x st=>x = .val (.bool r)∧st=⟨B,Rw,L⟩:=by
 rw [Dj] at h
 refine hd [.tmp 4] Tryz.func182 Tryz.ntmps182 fun M0 W0 q l j b i g hs=>?_
 simp only [Au]
 have d:=Ci (i (.clo fa1 ca1) (by simp))
 refine rg [0,1] hs ?_
 obtain ⟨p,e,h⟩:=bind_some h
 refine rc 2 [4] hs ?_;intro K2 c
 refine Ai _ (NK w0 n _ _ _ a0 fa1 ca1 a1 (fun x0 r o f a m k=>ha1 x0 r o f a (List.IsPrefix.trans px m) (g.pre.trans k)) _ e) (hv hs) ?_
 refine ne hs c ?_
 clear c
 exact rt h hs b g
def HN (n:Nat)  : Option Int :=
 some ((-1))
def C5 (n:Nat) (h:List ByteArray) (q:ByteArray):Nat→Int→Option Int
 | 0,_=>none
 | m+1,b =>
  if decide (b<(h.length:Int)) then
   (Cb h b).bind fun g =>
   if DK q g then
    some (b)
   else
    if BV (b+1) then
     (C5 n h q m) (b+1)
    else none
  else
   HN n 
def Gy (n:Nat) (g:List ByteArray) (b:ByteArray):Option Int :=
 C5 n g b n 0
theorem Py (w0:World) (n:Nat) (B:List (List AV)) (Rw:List RowA) (L:List LoopA) (a0:List ByteArray) (a1:ByteArray) (r:Int) (h:Gy n a0 a1=some r) :
  ACalls Tryz.prog w0 190 [.list (a0.map NI) .none,.val (.string a1)] ⟨B,Rw,L⟩ fun x st=>x = .val (.int .i64 r)∧st=⟨B,Rw,L⟩:=by
 rw [Gy] at h
 refine hd [.tmp 4] Tryz.func190 Tryz.ntmps190 fun M0 W0 v j l b y c hs=>?_
 simp only [Au]
 refine rg [0,1] hs ?_
 refine Av (fun e st=>Ck e st B Rw L [] [] [] (HN n  = some r)) ?_ ?_
 ·intro K4 t
  refine rg [0,1,7,8] hs ?_
  apply Ak
  refine AC (fun m e st=>∃ (a:Int),Ck e st B Rw L [(0,true,.list (a0.map NI) .none),(1,true,.val (.string a1)),(7,true,.val (.int .i64 (a0.length:Int))),(8,true,.val (.int .i64 a))] [] [] (C5 n a0 a1 m a=some r)) n ⟨0,([]),Rw,ef hs,ef hs,c,h⟩ ?_
  rintro ml6 e st ⟨a,Xl6,Rl6,rfl,rfl,c,h⟩ Ul6 Vl6
  cases ml6 with
  | zero=>cases h
  | succ ml6 =>
  rw [C5] at h
  refine td v j l b c ?_
  refine rg [0,1,7,8,9] hs ?_
  apply Ah;intro K8 k
  refine AL h hs (fun hs h=>?_) (fun hs h=>?_)
  rotate_left
  ·refine sx [] hs t ?_
   exact ⟨([]),Rl6,ef hs,ef hs,c,h⟩
  refine sk [0,1,7,8] hs k ?_
  clear k
  apply Ah;intro K10 d
  apply Ak
  refine rg [0,1,5,7,8] hs ?_
  obtain ⟨w,o,h⟩:=bind_some h
  obtain ⟨q,p,i⟩:=AA o
  have g:=AB (f:=NI) i
  have hs:=Aa g hs
  refine rg [0,1,5,7,8,16] hs ?_
  refine AL h hs (fun hs h=>?_) (fun hs h=>?_)
  ·refine rg [4] hs ?_
   exact rt h hs b c
  refine sk [0,1,7,8] hs d ?_
  clear d
  obtain ⟨u,h⟩:=Aj h
  refine rl [0,1,7,8] hs (fun e s=>Vl6 ml6 e s (Nat.lt_succ_self _)) ?_
  exact ⟨(a+1),([]),Rl6,ef hs,ef hs,c,h⟩
 ·clear h;rintro e st ⟨Xk3,Rk3,rfl,rfl,c,h⟩
  rw [HN] at h
  refine td v j l b c ?_
  refine rg [4] hs ?_
  exact rt h hs b c
def Bz (n:Nat) (h:List ByteArray) (b:ByteArray):Option Bool :=
 (Gy n h b).bind fun g =>
 some (decide (0≤g))
theorem EH (w0:World) (n:Nat) (B:List (List AV)) (Rw:List RowA) (L:List LoopA) (a0:List ByteArray) (a1:ByteArray) (r:Bool) (h:Bz n a0 a1=some r) :
  ACalls Tryz.prog w0 131 [.list (a0.map NI) .none,.val (.string a1)] ⟨B,Rw,L⟩ fun x st=>x = .val (.bool r)∧st=⟨B,Rw,L⟩:=by
 rw [Bz] at h
 refine hd [.tmp 4] Tryz.func131 Tryz.ntmps131 fun M0 W0 j f e a g d hs=>?_
 simp only [Au]
 refine rg [0,1] hs ?_
 obtain ⟨i,c,h⟩:=bind_some h
 refine rc 2 [4] hs ?_;intro K2 b
 refine Ai _ (Py w0 n _ _ _ a0 a1 _ c) (hv hs) ?_
 refine ne hs b ?_
 clear b
 exact rt h hs a d
def OT (rec:Ty→Vl→Option Bool) (n:Nat) (q:Ty) (h:Vl):Option Bool :=
 (AD n q.fields (fun (g:Int × ByteArray × Int × Ty × List Vl)=>J2 n g h)).bind fun b =>
 some (!b)
def P7 (rec:Ty→Vl→Option Bool) (n:Nat)  : Option Bool :=
 some (true)
def H4 (rec:Ty→Vl→Option Bool) (n:Nat) (y:Ty) (q:Vl):Nat→Int→Option Bool
 | 0,_=>none
 | m+1,b =>
  if decide (b<(q.fields.length:Int)) then
   (Cb q.fields b).bind fun h =>
   (IP n y h.1).bind fun g =>
   if !g.2 then
    some (false)
   else
    (rec g.1.2.2.2.1 h.2).bind fun s =>
    if !s then
     some (false)
    else
     if BV (b+1) then
      (H4 rec n y q m) (b+1)
     else none
  else
   OT rec n y q 
def Dl (rec:Ty→Vl→Option Bool) (n:Nat) (b:Ty) (g:Vl) (h:Bool):Option Bool :=
 if h then
  some ((decide (b.min≤g.int)&&decide (g.int≤b.max))&&(decide (g.scale=b.scale)))
 else
  if decide (b.kind=4) then
   if decide (0<(b.words.length:Int)) then
    (Bz n b.words g.text).bind fun y27 =>
    some (y27)
   else
    some (decide (b.min≤(g.text.size:Int))&&decide ((g.text.size:Int)≤b.max))
  else
   if decide (b.kind=5) then
    some (decide (b.min≤(g.text.size:Int))&&decide ((g.text.size:Int)≤b.max))
   else
    if decide (b.kind=8) then
     if decide (b.min≤(g.list.length:Int))&&decide ((g.list.length:Int)≤b.max) then
      (Dj n g.list (fun (x0:Vl)=>J7 rec x0 b)).bind fun s =>
      some (!s)
     else
      some (false)
    else
     if decide (b.kind=10) then
      (IP n b g.text).bind fun q =>
      if q.2 then
       (Cb g.list 0).bind fun x43 =>
       (rec q.1.2.2.2.1 x43).bind fun y =>
       some (y)
      else
       some (false)
     else
      if decide (b.kind=9) then
       H4 rec n b g n 0
      else
       P7 rec n 
def SU (rec:Ty→Vl→Option Bool) (n:Nat) (b:Ty) (g:Vl):Option Bool :=
 if !(decide (g.kind=b.kind)) then
  some (false)
 else
  if decide (b.kind=2) then
   Dl rec n b g true
  else
   if decide (b.kind=6) then
    Dl rec n b g true
   else
    if decide (b.kind=7) then
     Dl rec n b g true
    else
     Dl rec n b g (decide (b.kind=3))
def I8:Nat→Ty→Vl→Option Bool
 | 0,_,_=>none
 | n+1,g,b=>SU (I8 n) n g b
def Xg (w0:World) (F:Ty→Vl→Option Bool):Prop:=∀ (B:List (List AV)) (Rw:List RowA) (L:List LoopA) (g:Ty) (b:Vl) (r:Bool),F g b=some r→ACalls Tryz.prog w0 107 [.agg (g.cs),.agg (b.cs)] ⟨B,Rw,L⟩ fun x st=>x = .val (.bool r)∧st=⟨B,Rw,L⟩
theorem Zc (w0:World) (rec:Ty→Vl→Option Bool) (ih:Xg w0 rec) (n:Nat):Xg w0 (SU rec n):=by
 intro B Rw L a0 a1 r h
 rw [SU] at h
 refine hd [.tmp 4] Tryz.func107 Tryz.ntmps107 fun M0 W0 hN p q a hu c hs=>?_
 simp only [Au]
 refine rg [2,3] hs ?_
 apply Ah;intro K2 ad
 refine rg [2,3,15] hs ?_
 refine AL h hs (fun hs h=>?_) (fun hs h=>?_)
 ·refine rg [4] hs ?_
  exact rt h hs a c
 refine sk [2,3] hs ad ?_
 clear ad
 refine Av (fun e st=>Ck e st B Rw L [] [a0.cs,a1.cs] [] (P7 rec n  = some r)) ?_ ?_
 ·intro K8 ak
  refine rg [2,3,17] hs ?_
  apply Ak
  refine Av (fun e st=>∃ (d:Bool),Ck e st B Rw L [(2,true,.box B.length 0),(3,true,.box (B.length+1) 0),(17,true,.val (.int .i64 a0.kind)),(18,true,.val (.bool d))] [a0.cs,a1.cs] [] (Dl rec n a0 a1 d=some r)) ?_ ?_
  ·intro K12 k
   refine rg [2,3,17,18] hs ?_
   refine AL h hs (fun hs h=>?_) (fun hs h=>?_)
   ·refine sk [2,3,17,18] hs k ?_
    exact ⟨true,([]),Rw,ef hs,ef hs,c,h⟩
   refine rg [2,3,17,18] hs ?_
   refine AL h hs (fun hs h=>?_) (fun hs h=>?_)
   ·refine sk [2,3,17,18] hs k ?_
    exact ⟨true,([]),Rw,ef hs,ef hs,c,h⟩
   refine rg [2,3,17,18] hs ?_
   refine AL h hs (fun hs h=>?_) (fun hs h=>?_)
   ·refine sk [2,3,17,18] hs k ?_
    exact ⟨true,([]),Rw,ef hs,ef hs,c,h⟩
   refine rl [2,3,17,18] hs k ?_
   exact ⟨(decide (a0.kind=3)),([]),Rw,ef hs,ef hs,c,h⟩
  ·clear h;rintro e st ⟨d,Xk11,Rk11,rfl,rfl,c,h⟩
   rw [Dl] at h
   refine td hN p q a c ?_
   refine AL h hs (fun hs h=>?_) (fun hs h=>?_)
   ·refine rc 2 [4] hs ?_;intro K20 x
    refine Ai _ (P8 w0 _ _ _ a1.int a0.min a0.max) (hv hs) ?_
    refine ne hs x ?_
    clear x
    exact rt h hs a c
   refine rg [2,3,17,37] hs ?_
   refine AL h hs (fun hs h=>?_) (fun hs h=>?_)
   ·apply Ah;intro K23 E
    refine rg [2,3,42] hs ?_
    refine AL h hs (fun hs h=>?_) (fun hs h=>?_)
    ·obtain ⟨ax,U,h⟩:=bind_some h
     refine rc 2 [4] hs ?_;intro K26 y
     refine Ai _ (EH w0 n _ _ _ a0.words a1.text _ U) (hv hs) ?_
     refine ne hs y ?_
     clear y
     exact rt h hs a c
    refine sk [2,3] hs E ?_
    clear E
    refine rc 2 [4] hs ?_;intro K28 u
    refine Ai _ (P8 w0 _ _ _ (a1.text.size:Int) a0.min a0.max) (hv hs) ?_
    refine ne hs u ?_
    clear u
    exact rt h hs a c
   refine rg [2,3,17,56] hs ?_
   refine AL h hs (fun hs h=>?_) (fun hs h=>?_)
   ·refine rc 2 [4] hs ?_;intro K31 z
    refine Ai _ (P8 w0 _ _ _ (a1.text.size:Int) a0.min a0.max) (hv hs) ?_
    refine ne hs z ?_
    clear z
    exact rt h hs a c
   refine rg [2,3,17,66] hs ?_
   refine AL h hs (fun hs h=>?_) (fun hs h=>?_)
   ·apply Ah;intro K34 j
    rcases Bool.eq_false_or_eq_true (decide (a0.min≤(a1.list.length:Int))&&decide ((a1.list.length:Int)≤a0.max)) with hf35 | hf35
    ·replace h:=AY h hf35
     obtain ⟨av,ae,h⟩:=bind_some h
     have hs:=Aa hf35 hs
     refine rk 3 [4] hs ?_
     refine Ai _ (P8 w0 _ _ _ (a1.list.length:Int) a0.min a0.max) (hv hs) ?_
     refine nc hs ?_
     refine Ai _ (LN w0 n _ _ _ a1.list 183 [.box B.length 0] (fun (H:Vl)=>J7 rec H a0) (fun H r hx B' N J ap=>by exact ZE w0 rec ih _ _ _ H _ a0 (DI J (ef hs)) _ hx) _ ae) (hv hs) ?_
     refine ne hs j ?_
     clear j
     exact rt h hs a c
    ·replace h:=AZ h hf35
     have hs:=Aa hf35 hs
     refine rk 3 [4] hs ?_
     refine Ai _ (P8 w0 _ _ _ (a1.list.length:Int) a0.min a0.max) (hv hs) ?_
     refine nc hs ?_
     refine Az ?_
     refine ne hs j ?_
     clear j
     exact rt h hs a c
   refine rg [2,3,17,83] hs ?_
   refine AL h hs (fun hs h=>?_) (fun hs h=>?_)
   ·obtain ⟨ag,Q,h⟩:=bind_some h
    refine rc 2 [3,5,6] hs ?_;intro K39 C
    refine Ai _ (PN w0 n _ _ _ a0 a1.text _ Q) (hv hs) ?_
    refine ne hs C ?_
    clear C
    apply Ah;intro K41 l
    rcases Bool.eq_false_or_eq_true (ag.2) with hf42 | hf42
    ·replace h:=AY h hf42
     obtain ⟨am,ah,aj,o,h⟩:=ix Bo h
     have K:(a1.list.map Bo).getD 0 .junk=_:=o
     obtain ⟨aw,Y,h⟩:=bind_some h
     have hs:=Aa hf42 hs
     have hs:=Aa o hs
     have hs:=Aa K hs
     refine dk 11 2 1 [4] hs Iw ?_
     refine Ai _ (ih _ _ _ ag.1.2.2.2.1 am _ Y) (hv hs) ?_
     refine dn hs l ?_
     clear l
     exact rt h hs a c
    ·replace h:=AZ h hf42
     have hs:=Aa hf42 hs
     refine dk 11 2 1 [4] hs Iw ?_
     refine Az ?_
     refine dn hs l ?_
     clear l
     exact rt h hs a c
   refine rg [2,3,102] hs ?_
   refine AL h hs (fun hs h=>?_) (fun hs h=>?_)
   ·refine Av (fun e st=>Ck e st B Rw L [(2,true,.box B.length 0),(3,true,.box (B.length+1) 0)] [a0.cs,a1.cs] [] (OT rec n a0 a1  = some r)) ?_ ?_
    ·intro K49 af
     refine rg [2,3,105,106,107] hs ?_
     apply Ak
     refine AC (fun m e st=>∃ (b:Int),Ck e st B Rw L [(2,true,.box B.length 0),(3,true,.box (B.length+1) 0),(105,true,.list (a1.fields.map B9) .none),(106,true,.val (.int .i64 (a1.fields.length:Int))),(107,true,.val (.int .i64 b))] [a0.cs,a1.cs] [] (H4 rec n a0 a1 m b=some r)) n ⟨0,([]),Rk11,ef hs,ef hs,c,h⟩ ?_
     rintro ml51 e st ⟨b,Xl51,Rl51,rfl,rfl,c,h⟩ Ul51 Vl51
     cases ml51 with
     | zero=>cases h
     | succ ml51 =>
     rw [H4] at h
     refine td hN p q a c ?_
     refine rg [2,3,105,106,107,108] hs ?_
     apply Ah;intro K53 D
     refine AL h hs (fun hs h=>?_) (fun hs h=>?_)
     rotate_left
     ·refine sx [2,3] hs af ?_
      exact ⟨([]),Rl51,ef hs,ef hs,c,h⟩
     refine sk [2,3,105,106,107] hs D ?_
     clear D
     apply Ah;intro K55 F
     apply Ak
     obtain ⟨t,ab,h⟩:=bind_some h
     obtain ⟨ao,ai,G⟩:=AA ab
     have O:=AB (f:=B9) G
     have hs:=Aa O hs
     refine rg [2,3,8,105,106,107] hs ?_
     obtain ⟨g,Z,h⟩:=bind_some h
     refine rc 2 [2,3,8,9,10,105,106,107] hs ?_;intro K58 w
     refine Ai _ (PN w0 n _ _ _ a0 t.1 _ Z) (hv hs) ?_
     refine ne hs w ?_
     clear w
     apply Ah;intro K60 i
     rcases Bool.eq_false_or_eq_true (!g.2) with hf61 | hf61
     ·replace h:=AY h hf61
      have hs:=Aa hf61 hs
      refine rk 2 [2,3,105,106,107,127] hs ?_
      refine Az ?_
      refine ne hs i ?_
      clear i
      refine A2 true ev (ef hs) (fun hb62=>?_) (fun hb62=>by cases hb62)
      refine rg [4] hs ?_
      exact rt h hs a c
     ·replace h:=AZ h hf61
      obtain ⟨au,aa,h⟩:=bind_some h
      have hs:=Aa hf61 hs
      refine rk 2 [2,3,105,106,107,127] hs ?_
      refine Ai _ (ih _ _ _ g.1.2.2.2.1 t.2 _ aa) (hv hs) ?_
      refine ne hs i ?_
      clear i
      refine AL h hs (fun hs h=>?_) (fun hs h=>?_)
      ·refine rg [4] hs ?_
       exact rt h hs a c
      refine sk [2,3,105,106,107] hs F ?_
      clear F
      obtain ⟨aq,h⟩:=Aj h
      refine rl [2,3,105,106,107] hs (fun e s=>Vl51 ml51 e s (Nat.lt_succ_self _)) ?_
      exact ⟨(b+1),([.val (.string t.1)::(t.2.cs),.val (.int .i64 g.1.1)::(.val (.string g.1.2.1)::(.val (.int .i64 g.1.2.2.1)::((g.1.2.2.2.1.cs)++([.list (g.1.2.2.2.2.map Bo) .none]))))]),Rl51,ef hs,ef hs,c,h⟩
    ·clear h;rintro e st ⟨Xk48,Rk48,rfl,rfl,c,h⟩
     rw [OT] at h
     refine td hN p q a c ?_
     obtain ⟨ar,V,h⟩:=bind_some h
     refine rc 2 [4] hs ?_;intro K68 v
     refine Ai _ (BS w0 n _ _ _ a0.fields 184 [.box (B.length+1) 0] (fun (H:Int × ByteArray × Int × Ty × List Vl)=>J2 n H a1) (fun H r hx B' N J ap=>by exact Zn w0 n _ _ _ H _ a1 (DI J (ef hs)) _ hx) _ V) (hv hs) ?_
     refine ne hs v ?_
     clear v
     exact rt h hs a c
   refine sk [] hs ak ?_
   exact ⟨([]),Rk11,ef hs,ef hs,c,h⟩
 ·clear h;rintro e st ⟨Xk7,Rk7,rfl,rfl,c,h⟩
  rw [P7] at h
  refine td hN p q a c ?_
  refine rg [4] hs ?_
  exact rt h hs a c
theorem X4 (w0:World):∀ n:Nat,Xg w0 (I8 n)
 | 0=>fun _ _ _ _ _ _ h=>(nomatch h)
 | n+1=>Zc w0 (I8 n) (X4 w0 n) n
def Jg (n:Nat) (q:Ty) (b:Vl):Option Bool :=
 (EX n b).bind fun g =>
 if decide (g=0) then
  (I8 n q b).bind fun h =>
  some (h)
 else
  some (false)
theorem WN (w0:World) (hT:Lib.Utf8Tabs 0 1 w0) (n:Nat) (B:List (List AV)) (Rw:List RowA) (L:List LoopA) (a0:Ty) (a1:Vl) (r:Bool) (h:Jg n a0 a1=some r) :
  ACalls Tryz.prog w0 59 [.agg (a0.cs),.agg (a1.cs)] ⟨B,Rw,L⟩ fun x st=>x = .val (.bool r)∧st=⟨B,Rw,L⟩:=by
 rw [Jg] at h
 refine hd [.tmp 4] Tryz.func59 Tryz.ntmps59 fun M0 W0 l g f a j e hs=>?_
 simp only [Au]
 refine rg [2,3] hs ?_
 apply Ah;intro K2 b
 obtain ⟨i,c,h⟩:=bind_some h
 rcases Bool.eq_false_or_eq_true (decide (i=0)) with hf4 | hf4
 ·replace h:=AY h hf4
  obtain ⟨k,d,h⟩:=bind_some h
  have hs:=Aa hf4 hs
  refine rk 3 [4] hs ?_
  refine Ai _ (Kt w0 hT n _ _ _ a1 _ c) (hv hs) ?_
  refine nc hs ?_
  refine Ai _ (X4 w0 n _ _ _ a0 a1 _ d) (hv hs) ?_
  refine ne hs b ?_
  clear b
  exact rt h hs a e
 ·replace h:=AZ h hf4
  have hs:=Aa hf4 hs
  refine rk 3 [4] hs ?_
  refine Ai _ (Kt w0 hT n _ _ _ a1 _ c) (hv hs) ?_
  refine nc hs ?_
  refine Az ?_
  refine ne hs b ?_
  clear b
  exact rt h hs a e
def D1 (g:Int × ByteArray × Int × Ty × List Vl) (b:Int × ByteArray × Int × Ty × List Vl):Bool :=
 (DK g.2.1 b.2.1)||(decide (g.1=b.1))
theorem Wu (w0:World) (B:List (List AV)) (Rw:List RowA) (L:List LoopA) (a0:Int × ByteArray × Int × Ty × List Vl) (la1:Nat) (a1:Int × ByteArray × Int × Ty × List Vl) (hla1:B[la1]? = some (.val (.int .i64 a1.1)::(.val (.string a1.2.1)::(.val (.int .i64 a1.2.2.1)::((a1.2.2.2.1.cs)++([.list (a1.2.2.2.2.map Bo) .none])))))) (r:Bool) (h:D1 a0 a1=r) :
  ACalls Tryz.prog w0 227 [.agg (.val (.int .i64 a0.1)::(.val (.string a0.2.1)::(.val (.int .i64 a0.2.2.1)::((a0.2.2.2.1.cs)++([.list (a0.2.2.2.2.map Bo) .none]))))),.box la1 0] ⟨B,Rw,L⟩ fun x st=>x = .val (.bool r)∧st=⟨B,Rw,L⟩:=by
 rw [D1] at h
 refine hd [.tmp 3] Tryz.func227 Tryz.ntmps227 fun M0 W0 g e d a f c hs=>?_
 simp only [Au]
 have b:=(Ag.1 hla1).1
 have hs:=Aa (An hla1) hs
 refine rg [1,2] hs ?_
 refine rg [3] hs ?_
 exact rT h hs a c
theorem Vp (w0:World) (B:List (List AV)) (Rw:List RowA) (L:List LoopA) (a0:Int × ByteArray × Int × Ty × List Vl) (la1:Nat) (a1:Int × ByteArray × Int × Ty × List Vl) (hla1:B[la1]? = some (.val (.int .i64 a1.1)::(.val (.string a1.2.1)::(.val (.int .i64 a1.2.2.1)::((a1.2.2.2.1.cs)++([.list (a1.2.2.2.2.map Bo) .none])))))) :
  ACalls Tryz.prog w0 227 [.agg (.val (.int .i64 a0.1)::(.val (.string a0.2.1)::(.val (.int .i64 a0.2.2.1)::((a0.2.2.2.1.cs)++([.list (a0.2.2.2.2.map Bo) .none]))))),.box la1 0] ⟨B,Rw,L⟩ fun x st=>x = .val (.bool (D1 a0 a1))∧st=⟨B,Rw,L⟩:=Wu w0 B Rw L a0 la1 a1 hla1 _ rfl
def MD (n:Nat) (h:Ty) (g:Int):Option Int :=
 (Cb h.fields g).bind fun b =>
 if b.2.1.size≤maxLen then
  if !(E8 b.2.1) then
   some (12)
  else
   if !(decide (1≤b.1)&&decide (b.1≤9999)) then
    some (2)
   else
    if 0≤0∧0≤g∧g≤(h.fields.length:Int) then
     (AD n (h.fields.take g.toNat) (fun (s:Int × ByteArray × Int × Ty × List Vl)=>some (D1 s b))).bind fun q =>
     if q then
      some (7)
     else
      if (!(decide (1≤b.2.2.1)&&decide (b.2.2.1≤3)))||((decide (h.kind=10))&&(!(decide (b.2.2.1=1)))) then
       some (11)
      else
       if (decide (b.2.2.1=3))&&(decide ((b.2.2.2.2.length:Int)=0)) then
        some (4)
       else
        if (decide (1<(b.2.2.2.2.length:Int)))||((!(decide (b.2.2.1=3)))&&(decide (0<(b.2.2.2.2.length:Int)))) then
         some (3)
        else
         some (0)
    else none
 else none
theorem ZC (w0:World) (n:Nat) (B:List (List AV)) (Rw:List RowA) (L:List LoopA) (a0:Ty) (a1:Int) (r:Int) (h:MD n a0 a1=some r) :
  ACalls Tryz.prog w0 195 [.agg (a0.cs),.val (.int .i64 a1)] ⟨B,Rw,L⟩ fun x st=>x = .val (.int .i64 r)∧st=⟨B,Rw,L⟩:=by
 rw [MD] at h
 refine hd [.tmp 4] Tryz.func195 Tryz.ntmps195 fun M0 W0 y t u a z d hs=>?_
 simp only [Au]
 refine rg [1,2] hs ?_
 obtain ⟨x3,m,h⟩:=bind_some h
 obtain ⟨s,p,k⟩:=AA m
 have g:=AB (f:=Da) k
 have hs:=Aa g hs
 refine rg [1,2,5] hs ?_
 apply Ah;intro K4 j
 apply Ak
 obtain ⟨l,h⟩:=Aj h
 refine rc 2 [1,2,5,11] hs ?_;intro K5 i
 refine Ai _ (Rh w0 _ _ _ x3.2.1 l) (hv hs) ?_
 refine ne hs i ?_
 clear i
 refine AL h hs (fun hs h=>?_) (fun hs h=>?_)
 ·refine rg [4] hs ?_
  exact rt h hs a d
 refine rc 2 [1,2,5,16] hs ?_;intro K9 e
 refine Ai _ (P8 w0 _ _ _ x3.1 1 9999) (hv hs) ?_
 refine ne hs e ?_
 clear e
 refine AL h hs (fun hs h=>?_) (fun hs h=>?_)
 ·refine rg [4] hs ?_
  exact rt h hs a d
 obtain ⟨q,h⟩:=Aj h
 obtain ⟨v,hy14,h⟩:=bind_some h
 refine rc 2 [2,5,21] hs ?_;intro K12 b
 refine Ai _ (BS w0 n _ _ _ (a0.fields.take a1.toNat) 227 [.box (B.length+1) 0] (fun (x0:Int × ByteArray × Int × Ty × List Vl)=>some (D1 x0 x3)) (fun x0 r hx C o hB' w=>by cases hx;exact Vp w0 _ _ _ x0 _ x3 (DI hB' (ef hs))) _ hy14) (hv hs) ?_
 refine ne hs b ?_
 clear b
 refine AL h hs (fun hs h=>?_) (fun hs h=>?_)
 ·refine rg [4] hs ?_
  exact rt h hs a d
 refine rc 2 [5,28] hs ?_;intro K17 c
 refine Ai _ (P8 w0 _ _ _ x3.2.2.1 1 3) (hv hs) ?_
 refine ne hs c ?_
 clear c
 refine AL h hs (fun hs h=>?_) (fun hs h=>?_)
 ·refine rg [4] hs ?_
  exact rt h hs a d
 refine rg [5,43] hs ?_
 refine AL h hs (fun hs h=>?_) (fun hs h=>?_)
 ·refine rg [4] hs ?_
  exact rt h hs a d
 refine rg [53] hs ?_
 refine AL h hs (fun hs h=>?_) (fun hs h=>?_)
 ·refine rg [4] hs ?_
  exact rt h hs a d
 refine sk [] hs j ?_
 clear j
 refine rg [4] hs ?_
 exact rt h hs a d
def H3  (b:Bool):Int :=
 if b then
  3
 else
  0
def Ky (b:Ty) (g:Lim):Int :=
 if (!g.bounds)&&((!(decide (b.min=0)))||(!(decide (b.max=0)))) then
  H3  true
 else
  if (!g.scale)&&(!(decide (b.scale=0))) then
   H3  true
  else
   if (!g.text)&&(decide (0<(b.words.length:Int))) then
    H3  true
   else
    if (!g.list)&&(decide (0<(b.elem.length:Int))) then
     H3  true
    else
     H3  ((!g.fields)&&(decide (0<(b.fields.length:Int))))
theorem Za7 (w0:World) (B:List (List AV)) (Rw:List RowA) (L:List LoopA) (a0:Ty) (a1:Lim) (r:Int) (h:Ky a0 a1=r) :
  ACalls Tryz.prog w0 193 [.agg (a0.cs),.agg (.val (.string a1.name)::(.val (.int .i64 a1.low)::(.val (.int .i64 a1.high)::(.val (.bool a1.bounds)::(.val (.bool a1.scale)::(.val (.bool a1.text)::(.val (.bool a1.list)::([.val (.bool a1.fields)]))))))))] ⟨B,Rw,L⟩ fun x st=>x = .val (.int .i64 r)∧st=⟨B,Rw,L⟩:=by
 rw [Ky] at h
 refine hd [.tmp 4] Tryz.func193 Tryz.ntmps193 fun M0 W0 j i g a k d hs=>?_
 simp only [Au]
 refine rg [2,3] hs ?_
 apply Ah;intro K2 f
 apply Ak
 refine Av (fun e st=>∃ (b:Bool),Ck e st B Rw L [(5,true,.val (.bool b))] [a0.cs,.val (.string a1.name)::(.val (.int .i64 a1.low)::(.val (.int .i64 a1.high)::(.val (.bool a1.bounds)::(.val (.bool a1.scale)::(.val (.bool a1.text)::(.val (.bool a1.list)::([.val (.bool a1.fields)])))))))] [] (H3  b=r)) ?_ ?_
 ·intro K5 c
  refine rg [2,3,5] hs ?_
  refine AL h hs (fun hs h=>?_) (fun hs h=>?_)
  ·refine sk [5] hs c ?_
   exact ⟨true,([]),Rw,ef hs,ef hs,d,h⟩
  refine rg [2,3,5] hs ?_
  refine AL h hs (fun hs h=>?_) (fun hs h=>?_)
  ·refine sk [5] hs c ?_
   exact ⟨true,([]),Rw,ef hs,ef hs,d,h⟩
  refine rg [2,3,5] hs ?_
  refine AL h hs (fun hs h=>?_) (fun hs h=>?_)
  ·refine sk [5] hs c ?_
   exact ⟨true,([]),Rw,ef hs,ef hs,d,h⟩
  refine rg [2,3,5] hs ?_
  refine AL h hs (fun hs h=>?_) (fun hs h=>?_)
  ·refine sk [5] hs c ?_
   exact ⟨true,([]),Rw,ef hs,ef hs,d,h⟩
  refine rl [5] hs c ?_
  exact ⟨((!a1.fields)&&(decide (0<(a0.fields.length:Int)))),([]),Rw,ef hs,ef hs,d,h⟩
 ·clear h;rintro e st ⟨b,Xk4,Rk4,rfl,rfl,d,h⟩
  rw [H3] at h
  refine td j i g a d ?_
  refine AL h hs (fun hs h=>?_) (fun hs h=>?_)
  ·refine rg [4] hs ?_
   exact rT h hs a d
  refine sk [] hs f ?_
  clear f
  refine rg [4] hs ?_
  exact rT h hs a d
theorem ZK (w0:World) (B:List (List AV)) (Rw:List RowA) (L:List LoopA) (a0:Ty) (a1:Lim) :
  ACalls Tryz.prog w0 193 [.agg (a0.cs),.agg (.val (.string a1.name)::(.val (.int .i64 a1.low)::(.val (.int .i64 a1.high)::(.val (.bool a1.bounds)::(.val (.bool a1.scale)::(.val (.bool a1.text)::(.val (.bool a1.list)::([.val (.bool a1.fields)]))))))))] ⟨B,Rw,L⟩ fun x st=>x = .val (.int .i64 (Ky a0 a1))∧st=⟨B,Rw,L⟩:=Za7 w0 B Rw L a0 a1 _ rfl
def H5  : ((List Lim)) :=
 [Lim.mk ((⟨#[]⟩:ByteArray)) 0 0 false false false false false,Lim.mk ((⟨#[98,111,111,108]⟩:ByteArray)) 0 0 false false false false false,Lim.mk ((⟨#[105,110,116]⟩:ByteArray)) ((-999999999999999)) 999999999999999 true false false false false,Lim.mk ((⟨#[100,101,99,105,109,97,108]⟩:ByteArray)) ((-999999999999999)) 999999999999999 true true false false false,Lim.mk ((⟨#[116,101,120,116]⟩:ByteArray)) 0 1024 true false true false false,Lim.mk ((⟨#[98,121,116,101,115]⟩:ByteArray)) 0 1024 true false false false false,Lim.mk ((⟨#[100,97,116,101]⟩:ByteArray)) ((-719162)) 2932896 true false false false false,Lim.mk ((⟨#[116,105,109,101]⟩:ByteArray)) ((-62135596800000)) 253402300799999 true false false false false,Lim.mk ((⟨#[108,105,115,116]⟩:ByteArray)) 0 256 true false false true false,Lim.mk ((⟨#[114,101,99,111,114,100]⟩:ByteArray)) 0 0 false false false false true,Lim.mk ((⟨#[118,97,114,105,97,110,116]⟩:ByteArray)) 0 0 false false false false true]
theorem ZU (w0:World) (B:List (List AV)) (Rw:List RowA) (L:List LoopA)  (r:(List Lim)) (h:H5  = r) :
  ACalls Tryz.prog w0 192 [] ⟨B,Rw,L⟩ fun x st=>x = .agg (r.flatMap fun x=>(WA x).cells)∧st=⟨B,Rw,L⟩:=by
 rw [H5] at h
 refine hd [.cell 0 185] Tryz.func192 Tryz.ntmps192 fun M0 W0 f d c a e b hs=>?_
 simp only [Au]
 refine rg [0] hs ?_
 refine rg [0] (al hs) ?_
 exact rT h hs a b
theorem Yg (w0:World) (B:List (List AV)) (Rw:List RowA) (L:List LoopA)  :
  ACalls Tryz.prog w0 192 [] ⟨B,Rw,L⟩ fun x st=>x = .agg ((H5 ).flatMap fun x=>(WA x).cells)∧st=⟨B,Rw,L⟩:=ZU w0 B Rw L  _ rfl
def Gj (b:ByteArray):Vl :=
 Vl.mk 4 0 0 b ([]) ([])
theorem Za6 (w0:World) (B:List (List AV)) (Rw:List RowA) (L:List LoopA) (a0:ByteArray) (r:Vl) (h:Gj a0=r) :
  ACalls Tryz.prog w0 168 [.val (.string a0)] ⟨B,Rw,L⟩ fun x st=>x = .agg (r.cs)∧st=⟨B,Rw,L⟩:=by
 rw [Gj] at h
 refine hd [.cell 2 46] Tryz.func168 Tryz.ntmps168 fun M0 W0 f d c a e b hs=>?_
 simp only [Au]
 refine rg [0,2] hs ?_
 refine rg [2] hs ?_
 exact rT h hs a b
theorem TA (w0:World) (B:List (List AV)) (Rw:List RowA) (L:List LoopA) (a0:ByteArray) :
  ACalls Tryz.prog w0 168 [.val (.string a0)] ⟨B,Rw,L⟩ fun x st=>x = .agg ((Gj a0).cs)∧st=⟨B,Rw,L⟩:=Za6 w0 B Rw L a0 _ rfl
def KW (n:Nat)  : Option Int :=
 some (0)
def FQ (n:Nat) (q:Ty):Nat→Int→Option Int
 | 0,_=>none
 | m+1,b =>
  if decide (b<(q.words.length:Int)) then
   (Cb q.words b).bind fun g =>
   (EX n (Gj g)).bind fun h =>
   if !(decide (h=0)) then
    some (h)
   else
    if decide (0<b) then
     if BV (b-1) then
      (Cb q.words (b-1)).bind fun s =>
      if DK g s then
       some (7)
      else
       if BV (b-1) then
        if Wq g s then
         some (24)
        else
         if BV (b+1) then
          (FQ n q m) (b+1)
         else none
       else none
     else none
    else
     if BV (b+1) then
      (FQ n q m) (b+1)
     else none
  else
   KW n 
def MI (n:Nat) (b:Ty):Option Int :=
 if (!(decide (b.min=0)))||(!(decide (b.max=0))) then
  some (3)
 else
  if decide (64<(b.words.length:Int)) then
   some (9)
  else
   FQ n b n 0
theorem ZN (w0:World) (hT:Lib.Utf8Tabs 0 1 w0) (n:Nat) (B:List (List AV)) (Rw:List RowA) (L:List LoopA) (a0:Ty) (r:Int) (h:MI n a0=some r) :
  ACalls Tryz.prog w0 194 [.agg (a0.cs)] ⟨B,Rw,L⟩ fun x st=>x = .val (.int .i64 r)∧st=⟨B,Rw,L⟩:=by
 rw [MI] at h
 refine hd [.tmp 2] Tryz.func194 Tryz.ntmps194 fun M0 W0 J u v b V c hs=>?_
 simp only [Au]
 refine rg [1] hs ?_
 apply Ah;intro K2 y
 apply Ak
 refine rg [1,6] hs ?_
 refine AL h hs (fun hs h=>?_) (fun hs h=>?_)
 ·refine rg [2] hs ?_
  exact rt h hs b c
 refine rg [1,15] hs ?_
 refine AL h hs (fun hs h=>?_) (fun hs h=>?_)
 ·refine rg [2] hs ?_
  exact rt h hs b c
 refine sk [1] hs y ?_
 clear y
 refine Av (fun e st=>Ck e st B Rw L [] [a0.cs] [] (KW n  = some r)) ?_ ?_
 ·intro K11 t
  refine rg [1,21,22,23] hs ?_
  apply Ak
  refine AC (fun m e st=>∃ (a:Int),Ck e st B Rw L [(1,true,.box B.length 0),(21,true,.list (a0.words.map NI) .none),(22,true,.val (.int .i64 (a0.words.length:Int))),(23,true,.val (.int .i64 a))] [a0.cs] [] (FQ n a0 m a=some r)) n ⟨0,([]),Rw,ef hs,ef hs,c,h⟩ ?_
  rintro ml13 e st ⟨a,Xl13,Rl13,rfl,rfl,c,h⟩ Ul13 Vl13
  cases ml13 with
  | zero=>cases h
  | succ ml13 =>
  rw [FQ] at h
  refine td J u v b c ?_
  refine rg [1,21,22,23,24] hs ?_
  apply Ah;intro K15 l
  refine AL h hs (fun hs h=>?_) (fun hs h=>?_)
  rotate_left
  ·refine sx [] hs t ?_
   exact ⟨([]),Rl13,ef hs,ef hs,c,h⟩
  refine sk [1,21,22,23] hs l ?_
  clear l
  apply Ah;intro K17 i
  apply Ak
  obtain ⟨z,w,h⟩:=bind_some h
  obtain ⟨D,E,o⟩:=AA w
  have q:=AB (f:=NI) o
  have hs:=Aa q hs
  refine rg [1,3,4,21,22,23] hs ?_
  apply Ah;intro K20 j
  obtain ⟨Q,C,h⟩:=bind_some h
  refine rc 3 [1,3,4,5,21,22,23] hs ?_;intro K21 k
  refine Ai _ (TA w0 _ _ _ z) (hv hs) ?_
  refine nc hs ?_
  refine Ai _ (Kt w0 hT n _ _ _ (Gj z) _ C) (hv hs) ?_
  refine ne hs k ?_
  clear k
  refine rg [1,3,4,5,21,22,23,32] hs ?_
  refine AL h hs (fun hs h=>?_) (fun hs h=>?_)
  ·refine rg [2] hs ?_
   exact rt h hs b c
  refine sk [1,3,4,21,22,23] hs j ?_
  clear j
  apply Ah;intro K26 d
  apply Ah;intro K27 g
  rcases Bool.eq_false_or_eq_true (decide (0<a)) with hf28 | hf28
  ·replace h:=AY h hf28
   obtain ⟨N,h⟩:=Aj h
   obtain ⟨U,G,F,p,h⟩:=ix NI h
   have hs:=Aa hf28 hs
   have hs:=Aa p hs
   refine rl [1,3,4,21,22,23,45] hs g ?_
   clear g
   refine AL h hs (fun hs h=>?_) (fun hs h=>?_)
   ·refine rg [2] hs ?_
    exact rt h hs b c
   refine sk [1,3,4,21,22,23] hs d ?_
   clear d
   obtain ⟨H,h⟩:=Aj h
   refine rg [1,21,22,23,57] hs ?_
   refine AL h hs (fun hs h=>?_) (fun hs h=>?_)
   ·refine rg [2] hs ?_
    exact rt h hs b c
   refine sk [1,21,22,23] hs i ?_
   clear i
   obtain ⟨K,h⟩:=Aj h
   refine rl [1,21,22,23] hs (fun e s=>Vl13 ml13 e s (Nat.lt_succ_self _)) ?_
   exact ⟨(a+1),([]),Rl13,ef hs,ef hs,c,h⟩
  ·replace h:=AZ h hf28
   have hs:=Aa hf28 hs
   refine rl [1,3,4,21,22,23,45] hs g ?_
   clear g
   refine A2 false ev (ef hs) (fun hb38=>by cases hb38) (fun hb38=>?_)
   refine sk [1,3,4,21,22,23] hs d ?_
   clear d
   refine rg [1,21,22,23,57] hs ?_
   refine A2 false ev (ef hs) (fun hb40=>by cases hb40) (fun hb40=>?_)
   refine sk [1,21,22,23] hs i ?_
   clear i
   obtain ⟨O,h⟩:=Aj h
   refine rl [1,21,22,23] hs (fun e s=>Vl13 ml13 e s (Nat.lt_succ_self _)) ?_
   exact ⟨(a+1),([]),Rl13,ef hs,ef hs,c,h⟩
 ·clear h;rintro e st ⟨Xk10,Rk10,rfl,rfl,c,h⟩
  rw [KW] at h
  refine td J u v b c ?_
  refine rg [2] hs ?_
  exact rt h hs b c
def Ry (n:Nat)  : Option Int :=
 some (0)
def H6 (n:Nat) (h:Ty):Nat→Int→Option Int
 | 0,_=>none
 | m+1,b =>
  if decide (b<(h.fields.length:Int)) then
   (MD n h b).bind fun g =>
   if !(decide (g=0)) then
    some (g)
   else
    if BV (b+1) then
     (H6 n h m) (b+1)
    else none
  else
   Ry n 
def H9 (n:Nat) (g:Ty) (b:Bool):Option Int :=
 if b then
  some (4)
 else
  if (decide (g.kind=8))&&(decide (1<(g.elem.length:Int))) then
   some (3)
  else
   if decide (64<(g.fields.length:Int)) then
    some (9)
   else
    H6 n g n 0
def J4 (n:Nat) (b:Ty):Option Int :=
 if (decide (b.kind=8))&&(decide ((b.elem.length:Int)=0)) then
  H9 n b true
 else
  H9 n b ((decide (b.kind=10))&&(decide ((b.fields.length:Int)=0)))
def MH (n:Nat) (g:Ty) (b:Bool):Option Int :=
 if b then
  some (2)
 else
  J4 n g 
def Qs (n:Nat) (b:Ty):Option Int :=
 if !(decide (1≤b.kind)&&decide (b.kind≤10)) then
  some (11)
 else
  (Cb (H5 ) b.kind).bind fun g =>
  if !(decide ((Ky b g)=0)) then
   some (Ky b g)
  else
   if (decide (b.kind=4))&&(decide (0<(b.words.length:Int))) then
    (MI n b).bind fun h =>
    if !(decide (h=0)) then
     some (h)
    else
     J4 n b 
   else
    if g.bounds&&(((decide (b.max<b.min))||(decide (b.min<g.low)))||(decide (g.high<b.max))) then
     MH n b true
    else
     MH n b (g.scale&&(!(decide (0≤b.scale)&&decide (b.scale≤12))))
theorem ZcB (w0:World) (hT:Lib.Utf8Tabs 0 1 w0) (n:Nat) (B:List (List AV)) (Rw:List RowA) (L:List LoopA) (a0:Ty) (r:Int) (h:Qs n a0=some r) :
  ACalls Tryz.prog w0 135 [.agg (a0.cs)] ⟨B,Rw,L⟩ fun x st=>x = .val (.int .i64 r)∧st=⟨B,Rw,L⟩:=by
 rw [Qs] at h
 refine hd [.tmp 2] Tryz.func135 Tryz.ntmps135 fun M0 W0 H o p a hu g hs=>?_
 simp only [Au]
 refine rg [1] hs ?_
 apply Ah;intro K2 Q
 refine rc 2 [1,11] hs ?_;intro K3 U
 refine Ai _ (P8 w0 _ _ _ a0.kind 1 10) (hv hs) ?_
 refine ne hs U ?_
 clear U
 refine AL h hs (fun hs h=>?_) (fun hs h=>?_)
 ·have l:=hs.1
  refine rg [2] hs ?_
  exact rt h hs a g
 have l:=hs.1
 refine sk [1] hs Q ?_
 clear Q
 apply Ah;intro K6 O
 obtain ⟨b,Y,h⟩:=bind_some h
 obtain ⟨Z,C,G⟩:=AA Y
 have d:=G9 (f:=fun x=>(WA x).cells) 8 (fun _=>rfl) G
 have J:(H5 ).length=11:=rfl
 first | rw [J] at C | simp only [List.length_cons,List.length_nil,Nat.reduceAdd,Nat.zero_add] at C
 simp only [Hn,Hk,Ht,Hq,Hm,GG,Fh,Fj,Hj,DZ,DY,Fe,Fp,Fg,JD] at d
 apply JP Iw [4,5] [1,3] kr (fun s=>∃ (X:List (List AV)) (rows:List RowA),s=⟨B++([a0.cs]++X),rows,L⟩) 3 (B.length+1)
 ·simp +decide only [go_sem,Nat.reduceAdd]
 ·rintro s ⟨X,rows,rfl⟩
  refine ⟨2,?_⟩
  rw [Am];simp +decide only [go_sem,Nat.reduceAdd,EO,l,d]
  have hs:=Aa d hs
  (repeat' apply Aa)<;>first | refine Ai _ (Yg w0 _ _ _ ) (hv hs) ?_ | exact cl
  rw [Am];simp +decide only [go_sem,Nat.reduceAdd,l,d]
  (repeat' apply Aa)<;>first | rfl | exact cl
 ·refine Good.mk [4] kr ⟨[],_,by first | rfl | simp only [List.append_nil,List.nil_append]⟩ ?_ ?_
  ·intro h;exact absurd h (by decide)
  ·intro i hi;simp only [List.mem_cons,List.not_mem_nil,or_false] at hi
   subst hi
   ·apply D3 rfl rfl ev
    ·simp +decide only [go_sem,Nat.reduceAdd,Gt,l,d]
     (repeat' apply Aa)<;>first | rfl | exact cl
    ·simp +decide only [go_sem,Nat.reduceAdd,l,d]
     refine Good.mk [5] kr ⟨_,_,by first | rfl | simp only [List.append_nil,List.nil_append]⟩ ?_ ?_
     ·intro h;exact absurd h (by decide)
     ·intro i hi;simp only [List.mem_cons,List.not_mem_nil,or_false] at hi
      subst hi
      ·apply D3 rfl rfl ev
       ·simp +decide only [go_sem,Nat.reduceAdd,Gt,l,d]
        (repeat' apply Aa)<;>first | rfl | exact cl
       ·simp +decide only [go_sem,Nat.reduceAdd,l,d]
        refine Good.mk [] kr ⟨_,_,by first | rfl | simp only [List.append_nil,List.nil_append]⟩ ?_ ?_
        ·intro _;apply DJ [1,3];first | (simp +decide only [go_sem,Nat.reduceAdd,l,d];done) | (simp +decide only [go_sem,Nat.reduceAdd,l,d];rfl)
        ·intro i hi;cases hi
 simp +decide only [go_sem,Nat.reduceAdd,l,d]
 (repeat' apply Aa)<;>first | refine O _ _ ?_ | exact cl
 clear O
 apply Ah;intro K8 N
 have hs:=Aa d hs
 refine rc 2 [1,3,4] hs ?_;intro K9 E
 refine Ai _ (ZK w0 _ _ _ a0 b) (hv hs) ?_
 refine ne hs E ?_
 clear E
 refine rg [1,3,4,20] hs ?_
 refine AL h hs (fun hs h=>?_) (fun hs h=>?_)
 ·refine rg [2] hs ?_
  exact rt h hs a g
 refine sk [1,3] hs N ?_
 clear N
 refine Av (fun e st=>Ck e st B Rw L [(1,true,.box B.length 0)] [a0.cs,.val (.string b.name)::(.val (.int .i64 b.low)::(.val (.int .i64 b.high)::(.val (.bool b.bounds)::(.val (.bool b.scale)::(.val (.bool b.text)::(.val (.bool b.list)::([.val (.bool b.fields)])))))))] [] (J4 n a0  = some r)) ?_ ?_
 ·intro K15 w
  apply Ak
  refine rg [1,3,22] hs ?_
  refine AL h hs (fun hs h=>?_) (fun hs h=>?_)
  ·obtain ⟨ab,K,h⟩:=bind_some h
   refine rc 2 [1,5] hs ?_;intro K18 t
   refine Ai _ (ZN w0 hT n _ _ _ a0 _ K) (hv hs) ?_
   refine ne hs t ?_
   clear t
   refine rg [1,5,35] hs ?_
   refine AL h hs (fun hs h=>?_) (fun hs h=>?_)
   ·refine rg [2] hs ?_
    exact rt h hs a g
   refine sk [1] hs w ?_
   exact ⟨([]),Rw,ef hs,ef hs,g,h⟩
  refine Av (fun e st=>∃ (j:Bool),Ck e st B Rw L [(1,true,.box B.length 0),(37,true,.val (.bool j))] [a0.cs,.val (.string b.name)::(.val (.int .i64 b.low)::(.val (.int .i64 b.high)::(.val (.bool b.bounds)::(.val (.bool b.scale)::(.val (.bool b.text)::(.val (.bool b.list)::([.val (.bool b.fields)])))))))] [] (MH n a0 j=some r)) ?_ ?_
  ·intro K25 D
   refine rg [1,3,37] hs ?_
   refine AL h hs (fun hs h=>?_) (fun hs h=>?_)
   ·refine sk [1,37] hs D ?_
    exact ⟨true,([]),Rw,ef hs,ef hs,g,h⟩
   refine rk 2 [1,37] hs ?_
   refine HB _ (fun _=>P8 w0 _ _ _ a0.scale 0 12) (hv hs) ?_
   refine ne hs D ?_
   exact ⟨(b.scale&&(!(decide (0≤a0.scale)&&decide (a0.scale≤12)))),([]),Rw,ef hs,ef hs,g,h⟩
  ·clear h;rintro e st ⟨j,Xk24,Rk24,rfl,rfl,g,h⟩
   rw [MH] at h
   refine td H o p a g ?_
   refine AL h hs (fun hs h=>?_) (fun hs h=>?_)
   ·refine rg [2] hs ?_
    exact rt h hs a g
   refine sk [1] hs w ?_
   exact ⟨([]),Rk24,ef hs,ef hs,g,h⟩
 ·clear h;rintro e st ⟨Xk14,Rk14,rfl,rfl,g,h⟩
  rw [J4] at h
  refine td H o p a g ?_
  apply Ah;intro K30 z
  apply Ak
  refine Av (fun e st=>∃ (k:Bool),Ck e st B Rw L [(1,true,.box B.length 0),(69,true,.val (.bool k))] [a0.cs,.val (.string b.name)::(.val (.int .i64 b.low)::(.val (.int .i64 b.high)::(.val (.bool b.bounds)::(.val (.bool b.scale)::(.val (.bool b.text)::(.val (.bool b.list)::([.val (.bool b.fields)])))))))] [] (H9 n a0 k=some r)) ?_ ?_
  ·intro K33 q
   refine rg [1,69] hs ?_
   refine AL h hs (fun hs h=>?_) (fun hs h=>?_)
   ·refine sk [1,69] hs q ?_
    exact ⟨true,([]),Rk14,ef hs,ef hs,g,h⟩
   refine rl [1,69] hs q ?_
   exact ⟨((decide (a0.kind=10))&&(decide ((a0.fields.length:Int)=0))),([]),Rk14,ef hs,ef hs,g,h⟩
  ·clear h;rintro e st ⟨k,Xk32,Rk32,rfl,rfl,g,h⟩
   rw [H9] at h
   refine td H o p a g ?_
   refine AL h hs (fun hs h=>?_) (fun hs h=>?_)
   ·refine rg [2] hs ?_
    exact rt h hs a g
   refine rg [1,88] hs ?_
   refine AL h hs (fun hs h=>?_) (fun hs h=>?_)
   ·refine rg [2] hs ?_
    exact rt h hs a g
   refine rg [1,98] hs ?_
   refine AL h hs (fun hs h=>?_) (fun hs h=>?_)
   ·refine rg [2] hs ?_
    exact rt h hs a g
   refine sk [1] hs z ?_
   clear z
   refine Av (fun e st=>Ck e st B Rw L [] [a0.cs,.val (.string b.name)::(.val (.int .i64 b.low)::(.val (.int .i64 b.high)::(.val (.bool b.bounds)::(.val (.bool b.scale)::(.val (.bool b.text)::(.val (.bool b.list)::([.val (.bool b.fields)])))))))] [] (Ry n  = some r)) ?_ ?_
   ·intro K46 F
    refine rg [1,105,106] hs ?_
    apply Ak
    refine AC (fun m e st=>∃ (c:Int),Ck e st B Rw L [(1,true,.box B.length 0),(105,true,.val (.int .i64 (a0.fields.length:Int))),(106,true,.val (.int .i64 c))] [a0.cs,.val (.string b.name)::(.val (.int .i64 b.low)::(.val (.int .i64 b.high)::(.val (.bool b.bounds)::(.val (.bool b.scale)::(.val (.bool b.text)::(.val (.bool b.list)::([.val (.bool b.fields)])))))))] [] (H6 n a0 m c=some r)) n ⟨0,([]),Rk32,ef hs,ef hs,g,h⟩ ?_
    rintro ml48 e st ⟨c,Xl48,Rl48,rfl,rfl,g,h⟩ Ul48 Vl48
    cases ml48 with
    | zero=>cases h
    | succ ml48 =>
    rw [H6] at h
    refine td H o p a g ?_
    refine rg [1,105,106,107] hs ?_
    apply Ah;intro K50 y
    refine AL h hs (fun hs h=>?_) (fun hs h=>?_)
    rotate_left
    ·refine sx [] hs F ?_
     exact ⟨([]),Rl48,ef hs,ef hs,g,h⟩
    refine sk [1,105,106] hs y ?_
    clear y
    apply Ah;intro K52 v
    apply Ak
    refine rg [1,6,105,106] hs ?_
    obtain ⟨ad,V,h⟩:=bind_some h
    refine rc 2 [1,7,105,106] hs ?_;intro K54 u
    refine Ai _ (ZC w0 n _ _ _ a0 c _ V) (hv hs) ?_
    refine ne hs u ?_
    clear u
    refine rg [1,7,105,106,113] hs ?_
    refine AL h hs (fun hs h=>?_) (fun hs h=>?_)
    ·refine rg [2] hs ?_
     exact rt h hs a g
    refine sk [1,105,106] hs v ?_
    clear v
    obtain ⟨aa,h⟩:=Aj h
    refine rl [1,105,106] hs (fun e s=>Vl48 ml48 e s (Nat.lt_succ_self _)) ?_
    exact ⟨(c+1),([]),Rl48,ef hs,ef hs,g,h⟩
   ·clear h;rintro e st ⟨Xk45,Rk45,rfl,rfl,g,h⟩
    rw [Ry] at h
    refine td H o p a g ?_
    refine rg [2] hs ?_
    exact rt h hs a g
def Of (rec:Ty→Int→Int→Option (Int × Int)) (n:Nat)  (pla2_k18:Int):Option (Int × Int) :=
 some ((0,pla2_k18))
def Dk (rec:Ty→Int→Int→Option (Int × Int)) (n:Nat) (a0:Ty) (y:Int) (h:(List Ty)):Nat→Int→Int→Option (Int × Int)
 | 0,_,_=>none
 | m+1,b,pla2_l22 =>
  if decide (b<(h.length:Int)) then
   (Cb h b).bind fun s =>
   if BV (y+1) then
    (rec s (y+1) pla2_l22).bind fun g =>
    if !(decide (g.1=0)) then
     some ((g.1,g.2))
    else
     if decide (a0.kind=9) then
      (Cb a0.fields b).bind fun q =>
      if decide (q.2.2.1=3) then
       (Cb q.2.2.2.2 0).bind fun x40 =>
       (Jg n s x40).bind fun y41 =>
       if !y41 then
        some ((18,g.2))
       else
        if BV (b+1) then
         (Dk rec n a0 y h m) (b+1) g.2
        else none
      else
       if BV (b+1) then
        (Dk rec n a0 y h m) (b+1) g.2
       else none
     else
      if BV (b+1) then
       (Dk rec n a0 y h m) (b+1) g.2
      else none
   else none
  else
   Of rec n pla2_l22
def OH (rec:Ty→Int→Int→Option (Int × Int)) (n:Nat) (h:Ty) (s:Int) (b:Int):Option (Int × Int) :=
 if decide (b=0) then
  some ((9,b))
 else
  if decide (8<s) then
   some ((23,b))
  else
   if BV (b-1) then
    (Qs n h).bind fun g =>
    if !(decide (g=0)) then
     some ((g,b-1))
    else
     (LZ n h).bind fun q =>
     Dk rec n h s q n 0 (b-1)
   else none
def IE:Nat→Ty→Int→Int→Option (Int × Int)
 | 0,_,_,_=>none
 | n+1,g,b,h=>OH (IE n) n g b h
def Ro (w0:World) (F:Ty→Int→Int→Option (Int × Int)):Prop:=∀ (B:List (List AV)) (Rw:List RowA) (L:List LoopA) (g:Ty) (b:Int) (la2:Nat) (h:Int) (hla2:B[la2]? = some ([.val (.int .i64 h)])) (r:Int × Int),F g b h=some r→ACalls Tryz.prog w0 80 [.agg (g.cs),.val (.int .i64 b),.box la2 0] ⟨B,Rw,L⟩ fun x st=>x = .val (.int .i64 r.1)∧st=⟨(B.set la2 [.val (.int .i64 r.2)]),Rw,L⟩
theorem Wy (w0:World) (hT:Lib.Utf8Tabs 0 1 w0) (rec:Ty→Int→Int→Option (Int × Int)) (ih:Ro w0 rec) (n:Nat):Ro w0 (OH rec n):=by
 intro B Rw L a0 a1 C a2 b r h
 rw [OH] at h
 refine hd [.tmp 6] Tryz.func80 Tryz.ntmps80 fun M0 W0 hN Q aa a hu w hs=>?_
 simp only [Au]
 have ag:=(Ag.1 b).1
 have hs:=Aa (An b) hs
 refine rg [1,2,3] hs ?_
 apply Ah;intro K2 ab
 apply Ak
 refine rg [1,2,3,11] hs ?_
 refine AL h hs (fun hs h=>?_) (fun hs h=>?_)
 ·have k:=hs.1
  refine rg [6] hs ?_
  exact rt h hs a w
 have k:=hs.1
 refine rg [1,2,3,16] hs ?_
 refine AL h hs (fun hs h=>?_) (fun hs h=>?_)
 ·have l:=hs.1
  refine rg [6] hs ?_
  exact rt h hs a w
 have l:=hs.1
 refine sk [1,2,3] hs ab ?_
 clear ab
 obtain ⟨av,h⟩:=Aj h
 refine rg [1,2,3] hs ?_
 apply Ah;intro K11 D
 obtain ⟨ax,ad,h⟩:=bind_some h
 refine rc 2 [1,2,3,7] hs ?_;intro K12 G
 refine Ai _ (ZcB w0 hT n _ _ _ a0 _ ad) (hv hs) ?_
 refine ne hs G ?_
 clear G
 refine rg [1,2,3,7,27] hs ?_
 refine AL h hs (fun hs h=>?_) (fun hs h=>?_)
 ·have d:=hs.1
  refine rg [6] hs ?_
  apply A3;simp +decide only [go_sem,Nat.reduceAdd,An b,k,l,d]
  have hgt:=Option.some.inj h;subst hgt
  first | refine DL (Ap a ev) Hy w.pre ev ⟨?_,rfl⟩ | refine E9 (Ap a ev) Hy w.pre ev ⟨?_,rfl⟩
  first | rfl | (simp +decide only [go_sem,Nat.reduceAdd,An b,k,l,d];done) | (simp +decide only [go_sem,Nat.reduceAdd,Vl.cs,Ty.cs,An b,k,l,d];done)
 have d:=hs.1
 refine sk [1,2,3] hs D ?_
 clear D
 refine Av (fun e st=>∃ (j:Int) (Xk18:List (List AV)) (Rk18:List RowA),e=[]∧st=⟨(B.set C ([.val (.int .i64 j)]))++([a0.cs]++Xk18),Rk18,L⟩∧Owns Rw Rk18 []∧Of rec n j=some r) ?_ ?_
 ·intro K19 U
  obtain ⟨K,Y,h⟩:=bind_some h
  refine rc 2 [1,2,3,30,31,32] hs ?_;intro K20 E
  refine Ai _ (Z5 w0 n _ _ _ a0 _ Y) (hv hs) ?_
  refine ne hs E ?_
  clear E
  apply Ak
  refine AC (fun m e st=>∃ (c:Int) (g:Int) (Xl22:List (List AV)) (Rl22:List RowA),e=[(1,true,.val (.int .i64 a1)),(2,true,.box C 0),(3,true,.box B.length 0),(30,true,.list (K.map Ia) .none),(31,true,.val (.int .i64 (K.length:Int))),(32,true,.val (.int .i64 c))]∧st=⟨(B.set C ([.val (.int .i64 g)]))++([a0.cs]++Xl22),Rl22,L⟩∧Owns Rw Rl22 []∧Dk rec n a0 a1 K m c g=some r) n ⟨0,(a2-1),([]),Rw,ef hs,ef hs,w,h⟩ ?_
  rintro ml22 e st ⟨c,g,Xl22,Rl22,rfl,rfl,w,h⟩ Ul22 Vl22
  cases ml22 with
  | zero=>cases h
  | succ ml22 =>
  rw [Dk] at h
  refine AP hN Q aa Hy (Ap a ev) w ow ow ?_
  refine rg [1,2,3,30,31,32,33] hs ?_
  apply Ah;intro K24 J
  refine AL h hs (fun hs h=>?_) (fun hs h=>?_)
  rotate_left
  ·have o:=hs.1
   refine sx [] hs U ?_
   exact ⟨g,([]),Rl22,ef hs,ef hs,w,h⟩
  have o:=hs.1
  refine sk [1,2,3,30,31,32] hs J ?_
  clear J
  apply Ah;intro K26 u
  apply Ak
  obtain ⟨z,V,h⟩:=bind_some h
  obtain ⟨ap,ah,O⟩:=AA V
  have i:=AB (f:=Ia) O
  have hs:=Aa i hs
  refine rg [1,2,3,8,9,30,31,32] hs ?_
  apply Ah;intro K29 F
  obtain ⟨au,h⟩:=Aj h
  obtain ⟨N,af,h⟩:=bind_some h
  refine rc 2 [1,2,3,8,9,10,30,31,32] hs ?_;intro K30 H
  refine Bt _ (ih _ _ _ z (a1+1) C g (ef hs) _ af) (hv hs) ?_;rintro _ _ ⟨rfl,rfl⟩
  refine ne hs H ?_
  clear H
  refine rg [1,2,3,8,9,10,30,31,32,43] hs ?_
  refine AL h hs (fun hs h=>?_) (fun hs h=>?_)
  ·have t:=hs.1
   refine rg [6] hs ?_
   apply A3;simp +decide only [go_sem,Nat.reduceAdd,An b,k,l,d,o,i,t]
   have hgt:=Option.some.inj h;subst hgt
   first | refine DL (Ap a ev) Hy w.pre ev ⟨?_,rfl⟩ | refine E9 (Ap a ev) Hy w.pre ev ⟨?_,rfl⟩
   first | rfl | (simp +decide only [go_sem,Nat.reduceAdd,An b,k,l,d,o,i,t];done) | (simp +decide only [go_sem,Nat.reduceAdd,Vl.cs,Ty.cs,An b,k,l,d,o,i,t];done)
  have t:=hs.1
  refine sk [1,2,3,8,9,30,31,32] hs F ?_
  clear F
  apply Ah;intro K36 v
  rcases Bool.eq_false_or_eq_true (decide (a0.kind=9)) with hf37 | hf37
  ·replace h:=AY h hf37
   obtain ⟨ae,am,ai,p,h⟩:=ix Da h
   rcases Bool.eq_false_or_eq_true (decide (ae.2.2.1=3)) with hf39 | hf39
   ·replace h:=AY h hf39
    obtain ⟨ao,ak,aj,q,h⟩:=ix Bo h
    have x:(ae.2.2.2.2.map Bo).getD 0 .junk=_:=q
    obtain ⟨ay,Z,h⟩:=bind_some h
    have hs:=Aa hf37 hs
    have hs:=Aa p hs
    have hs:=Aa hf39 hs
    have hs:=Aa q hs
    have hs:=Aa x hs
    refine dk 25 2 1 [1,2,3,30,31,32,69] hs Iw ?_
    refine Ai _ (WN w0 hT n _ _ _ z ao _ Z) (hv hs) ?_
    refine dn hs v ?_
    clear v
    refine AL h hs (fun hs h=>?_) (fun hs h=>?_)
    ·have y:=hs.1
     refine rg [6] hs ?_
     apply A3;simp +decide only [go_sem,Nat.reduceAdd,An b,k,l,d,o,i,t,hf37,p,hf39,q,x,y]
     have hgt:=Option.some.inj h;subst hgt
     first | refine DL (Ap a ev) Hy w.pre ev ⟨?_,rfl⟩ | refine E9 (Ap a ev) Hy w.pre ev ⟨?_,rfl⟩
     first | rfl | (simp +decide only [go_sem,Nat.reduceAdd,An b,k,l,d,o,i,t,hf37,p,hf39,q,x,y];done) | (simp +decide only [go_sem,Nat.reduceAdd,Vl.cs,Ty.cs,An b,k,l,d,o,i,t,hf37,p,hf39,q,x,y];done)
    have y:=hs.1
    refine sk [1,2,3,30,31,32] hs u ?_
    clear u
    obtain ⟨ar,h⟩:=Aj h
    refine rl [1,2,3,30,31,32] hs (fun e s=>Vl22 ml22 e s (Nat.lt_succ_self _)) ?_
    exact ⟨(c+1),N.2,([z.cs]),Rl22,ef hs,ef hs,w,h⟩
   ·replace h:=AZ h hf39
    have hs:=Aa hf37 hs
    have hs:=Aa p hs
    have hs:=Aa hf39 hs
    refine dk 25 2 1 [1,2,3,30,31,32,69] hs Iw ?_
    refine Az ?_
    refine dn hs v ?_
    clear v
    refine A2 false ev (ef hs) (fun hb45=>by cases hb45) (fun hb45=>?_)
    refine sk [1,2,3,30,31,32] hs u ?_
    clear u
    obtain ⟨aw,h⟩:=Aj h
    refine rl [1,2,3,30,31,32] hs (fun e s=>Vl22 ml22 e s (Nat.lt_succ_self _)) ?_
    exact ⟨(c+1),N.2,([z.cs]),Rl22,ef hs,ef hs,w,h⟩
  ·replace h:=AZ h hf37
   have hs:=Aa hf37 hs
   refine dk 25 2 1 [1,2,3,30,31,32,69] hs Iw ?_
   refine Az ?_
   refine dn hs v ?_
   clear v
   refine A2 false ev (ef hs) (fun hb47=>by cases hb47) (fun hb47=>?_)
   refine sk [1,2,3,30,31,32] hs u ?_
   clear u
   obtain ⟨aq,h⟩:=Aj h
   refine rl [1,2,3,30,31,32] hs (fun e s=>Vl22 ml22 e s (Nat.lt_succ_self _)) ?_
   exact ⟨(c+1),N.2,([z.cs]),Rl22,ef hs,ef hs,w,h⟩
 ·clear h;rintro e st ⟨j,Xk18,Rk18,rfl,rfl,w,h⟩
  rw [Of] at h
  refine AP hN Q aa Hy (Ap a ev) w ow ow ?_
  refine rg [6] hs ?_
  apply A3;simp +decide only [go_sem,Nat.reduceAdd,An b,k,l,d]
  have hgt:=Option.some.inj h;subst hgt
  first | refine DL (Ap a ev) Hy w.pre ev ⟨?_,rfl⟩ | refine E9 (Ap a ev) Hy w.pre ev ⟨?_,rfl⟩
  first | rfl | (simp +decide only [go_sem,Nat.reduceAdd,An b,k,l,d];done) | (simp +decide only [go_sem,Nat.reduceAdd,Vl.cs,Ty.cs,An b,k,l,d];done)
theorem Uc (w0:World) (hT:Lib.Utf8Tabs 0 1 w0):∀ n:Nat,Ro w0 (IE n)
 | 0=>fun _ _ _ _ _ _ _ _ _ h=>(nomatch h)
 | n+1=>Wy w0 hT (IE n) (Uc w0 hT n) n
def H7  : List (Nat × Vl)→Int→Option Int
 | [],b1_r6 =>
  some (b1_r6)
 | p_r6::rest,b1_r6 =>
  if BV (b1_r6+1) then
   (H7  rest) (b1_r6+1)
  else none
def MC (b:Vl):Option Int :=
 if b.depth<4611686018427387904∧b.wide=true then
  H7  (Fa 1 b) 0
 else none
theorem Vu (w0:World) (B:List (List AV)) (Rw:List RowA) (L:List LoopA) (a0:Vl) (r:Int) (h:MC a0=some r) :
  ACalls Tryz.prog w0 77 [.agg (a0.cs)] ⟨B,Rw,L⟩ fun x st=>x = .val (.int .i64 r)∧st=⟨B,Rw,L⟩:=by
 rw [MC] at h
 refine hd [.tmp 2] Tryz.func77 Tryz.ntmps77 fun M0 W0 z j p b E c hs=>?_
 simp only [Au]
 refine rg [1] hs ?_
 refine rg [1,3] hs ?_
 apply Ah;intro K3 f
 refine rc 2 [3,5] hs ?_;intro K4 e
 refine Bt _ (Oq w0 _ _ _ a0) (hv hs) ?_;rintro _ _ ⟨rfl,rfl⟩
 refine ne hs e ?_
 clear e
 apply Ak
 obtain ⟨o,h⟩:=Aj h
 refine RH (ID a0) (fun st=>st.boxes[(B.length+2)]? = some a0.cs) (fun i st=>∃ (a:Int) (Rr6:List RowA),st=⟨B++([a0.cs,[.val (.int .i64 a)],a0.cs]),Rr6,L⟩∧Owns Rw Rr6 []∧H7  ((Fa 1 a0).drop i) a=some r) (fun _ _=>False) ev ev (LE w0 a0 o _) (fun x n=>PG a0 x n) (by decide) ?_ ⟨0,Rw,ef hs,c,h⟩ (fun _ _ h=>h.elim) ?_ ?_ ?_
 ·rintro i st m ⟨a,Rr6,rfl,c,h⟩ _ _;simp +decide [St.push]
 ·rintro i G ⟨XB,XR,XL⟩ x M1 W1 l m y hX C t g n D K v
  obtain ⟨u,q,rfl,F⟩:=P3 a0 i x n
  (try simp only at hX)
  subst hX
  obtain ⟨a,Rr6,rfl,c,h⟩:=C
  rw [Uy q,H7] at h
  have d:=c
  simp only [St.ext,St.push,List.append_assoc,List.append_nil]
  refine DU (Do [3] _) ?_ (Bg _ _)
  apply Bl;simp +decide only [go_sem,Nat.reduceAdd]
  (repeat' apply Aa)<;>first | refine v _ _ (by simp [St.ext,St.push]) (fun J k=>?_) | exact cl
  clear v
  dsimp only [St.ext,St.push]
  apply Ak
  obtain ⟨w,h⟩:=Aj h
  apply Ao 1 [3]
  rw [Am];simp +decide only [go_sem,Nat.reduceAdd]
  (repeat' apply Aa)<;>first | refine k _ _ _ ⟨⟨B++[a0.cs,[.val (.int .i64 (a+1))],a0.cs],Rr6,L⟩,[],by first | rfl | (simp only [List.append_assoc,List.append_nil,List.cons_append,List.nil_append];done),⟨by simp,by first | exact Nat.le_refl _ | (have:=c.len;simp;omega),rfl⟩,rfl,⟨(a+1),Rr6,ef hs,c,h⟩,?_⟩ | exact cl
  exact .inl rfl
 ·rintro s m ⟨XB,XR,XL⟩ hXR ⟨a,Rr6,rfl,c,h⟩ _ _
  simp only at hXR
  subst hXR
  rw [List.drop_eq_nil_of_le (by rw [LG];exact Nat.le_refl _),H7] at h
  simp only [St.ext,St.push,List.append_assoc,List.append_nil]
  (repeat' apply Aa)<;>first | refine f _ _ ?_ | exact cl
  clear f
  refine Re (bs:=[a0.cs,[.val (.int .i64 a)],a0.cs]) z j p rfl b c ow ow ?_
  refine rg [2] hs ?_
  exact rt h hs b c
 ·rintro H s m X hX h;exact h.elim
def Ec (rec:Ty→Option Int) (n:Nat) (g:Int→Int→Option Int) (b:Int) (h:Int):Option Int :=
 if BV (b+1) then
  g h (b+1)
 else none
def Eu (rec:Ty→Option Int) (n:Nat)  (b:Int):Option Int :=
 some ((if 4097<b then 4097 else b))
def BU (rec:Ty→Option Int) (n:Nat) (y:Ty):Nat→Int→Int→Option Int
 | 0,_,_=>none
 | m+1,g,b =>
  if decide (b<(y.fields.length:Int)) then
   (Cb y.fields b).bind fun h =>
   if decide (h.2.2.1=1) then
    (rec h.2.2.2.1).bind fun q =>
    if BV (g+q) then
     Ec rec n (BU rec n y m) b (g+q)
    else none
   else
    if decide (h.2.2.1=3) then
     (Cb h.2.2.2.2 0).bind fun x39 =>
     (MC x39).bind fun s =>
     if BV (g+s) then
      Ec rec n (BU rec n y m) b (g+s)
     else none
    else
     Ec rec n (BU rec n y m) b g
  else
   Eu rec n g
def I9 (rec:Ty→Option Int) (n:Nat) (b:Ty):Option Int :=
 if decide (b.kind=8) then
  if decide (0<b.min) then
   (Cb b.elem 0).bind fun s =>
   (rec s).bind fun g =>
   if BV (b.min*g) then
    if BV (1+(b.min*g)) then
     Eu rec n (1+(b.min*g))
    else none
   else none
  else
   Eu rec n 1
 else
  if decide (b.kind=10) then
   (Cb b.fields 0).bind fun q =>
   (rec q.2.2.2.1).bind fun h =>
   if BV (1+h) then
    Eu rec n (1+h)
   else none
  else
   if decide (b.kind=9) then
    BU rec n b n 1 0
   else
    Eu rec n 1
def DV:Nat→Ty→Option Int
 | 0,_=>none
 | n+1,b=>I9 (DV n) n b
def LI (w0:World) (F:Ty→Option Int):Prop:=∀ (B:List (List AV)) (Rw:List RowA) (L:List LoopA) (b:Ty) (r:Int),F b=some r→ACalls Tryz.prog w0 136 [.agg (b.cs)] ⟨B,Rw,L⟩ fun x st=>x = .val (.int .i64 r)∧st=⟨B,Rw,L⟩
theorem Rt (w0:World) (rec:Ty→Option Int) (ih:LI w0 rec) (n:Nat):LI w0 (I9 rec n):=by
 intro B Rw L a0 r h
 rw [I9] at h
 refine hd [.tmp 2] Tryz.func136 Tryz.ntmps136 fun M0 W0 O v y g hu i hs=>?_
 simp only [Au]
 refine rg [1] hs ?_
 refine rg [1,3] hs ?_
 refine Av (fun e st=>∃ (j:Int),Ck e st B Rw L [(3,true,.val (.int .i64 j))] [a0.cs] [] (Eu rec n j=some r)) ?_ ?_
 ·intro K5 l
  refine rg [1,3,7] hs ?_
  apply Ak
  refine rg [1,3,7,8] hs ?_
  refine AL h hs (fun hs h=>?_) (fun hs h=>?_)
  ·refine rg [1,3,12] hs ?_
   refine AL h hs (fun hs h=>?_) (fun hs h=>?_)
   ·obtain ⟨Z,ag,Y,o,h⟩:=ix Ia h
    have x:(a0.elem.map Ia).getD 0 .junk=_:=o
    obtain ⟨af,E,h⟩:=bind_some h
    obtain ⟨ak,h⟩:=Aj h
    obtain ⟨ai,h⟩:=Aj h
    have hs:=Aa o hs
    have hs:=Aa x hs
    refine dk 10 2 1 [3] hs Iw ?_
    refine Ai _ (ih _ _ _ Z _ E) (hv hs) ?_
    refine dn hs l ?_
    exact ⟨(1+(a0.min*af)),([]),Rw,ef hs,ef hs,i,h⟩
   refine sk [3] hs l ?_
   exact ⟨1,([]),Rw,ef hs,ef hs,i,h⟩
  refine rg [1,3,7,23] hs ?_
  refine AL h hs (fun hs h=>?_) (fun hs h=>?_)
  ·obtain ⟨J,ad,K,p,h⟩:=ix Da h
   have w:(a0.fields.map Da).getD 0 .junk=_:=p
   obtain ⟨ab,G,h⟩:=bind_some h
   obtain ⟨ap,h⟩:=Aj h
   have hs:=Aa p hs
   have hs:=Aa w hs
   refine rk 2 [3] hs ?_
   refine Ai _ (ih _ _ _ J.2.2.2.1 _ G) (hv hs) ?_
   refine ne hs l ?_
   exact ⟨(1+ab),([]),Rw,ef hs,ef hs,i,h⟩
  refine rg [1,3,33] hs ?_
  refine AL h hs (fun hs h=>?_) (fun hs h=>?_)
  ·refine rg [3,36,37,38] hs ?_
   apply Ak
   refine AC (fun m e st=>∃ (b:Int) (a:Int),Ck e st B Rw L [(3,true,.val (.int .i64 b)),(36,true,.list (a0.fields.map Da) .none),(37,true,.val (.int .i64 (a0.fields.length:Int))),(38,true,.val (.int .i64 a))] [a0.cs] [] (BU rec n a0 m b a=some r)) n ⟨1,0,([]),Rw,ef hs,ef hs,i,h⟩ ?_
   rintro ml23 e st ⟨b,a,Xl23,Rl23,rfl,rfl,i,h⟩ Ul23 Vl23
   cases ml23 with
   | zero=>cases h
   | succ ml23 =>
   rw [BU] at h
   refine td O v y g i ?_
   refine rg [3,36,37,38,39] hs ?_
   apply Ah;intro K25 t
   refine AL h hs (fun hs h=>?_) (fun hs h=>?_)
   rotate_left
   ·refine sx [3] hs l ?_
    exact ⟨b,([]),Rl23,ef hs,ef hs,i,h⟩
   refine sk [3,36,37,38] hs t ?_
   clear t
   refine Av (fun e st=>∃ (d:Int),Ck e st B Rw L [(3,true,.val (.int .i64 d)),(36,true,.list (a0.fields.map Da) .none),(37,true,.val (.int .i64 (a0.fields.length:Int))),(38,true,.val (.int .i64 a))] [a0.cs] [] (Ec rec n (BU rec n a0 ml23) a d=some r)) ?_ ?_
   ·intro K29 k
    apply Ak
    obtain ⟨c,F,h⟩:=bind_some h
    obtain ⟨N,ae,u⟩:=AA F
    have z:=AB (f:=Da) u
    have hs:=Aa z hs
    refine rg [3,5,36,37,38] hs ?_
    refine rg [3,5,36,37,38,43] hs ?_
    apply Ak
    refine rg [3,5,36,37,38,43,44] hs ?_
    refine AL h hs (fun hs h=>?_) (fun hs h=>?_)
    ·obtain ⟨U,H,h⟩:=bind_some h
     obtain ⟨aj,h⟩:=Aj h
     refine rk 2 [3,36,37,38] hs ?_
     refine Ai _ (ih _ _ _ c.2.2.2.1 _ H) (hv hs) ?_
     refine ne hs k ?_
     exact ⟨(b+U),([.val (.int .i64 c.1)::(.val (.string c.2.1)::(.val (.int .i64 c.2.2.1)::((c.2.2.2.1.cs)++([.list (c.2.2.2.2.map Bo) .none]))))]),Rl23,ef hs,ef hs,i,h⟩
    refine rg [3,5,36,37,38,51] hs ?_
    refine AL h hs (fun hs h=>?_) (fun hs h=>?_)
    ·obtain ⟨aa,V,Q,q,h⟩:=ix Bo h
     have C:(c.2.2.2.2.map Bo).getD 0 .junk=_:=q
     obtain ⟨ah,D,h⟩:=bind_some h
     obtain ⟨ao,h⟩:=Aj h
     have hs:=Aa q hs
     have hs:=Aa C hs
     refine rk 2 [3,36,37,38] hs ?_
     refine Ai _ (Vu w0 _ _ _ aa _ D) (hv hs) ?_
     refine ne hs k ?_
     exact ⟨(b+ah),([.val (.int .i64 c.1)::(.val (.string c.2.1)::(.val (.int .i64 c.2.2.1)::((c.2.2.2.1.cs)++([.list (c.2.2.2.2.map Bo) .none]))))]),Rl23,ef hs,ef hs,i,h⟩
    refine sk [3,36,37,38] hs k ?_
    exact ⟨b,([.val (.int .i64 c.1)::(.val (.string c.2.1)::(.val (.int .i64 c.2.2.1)::((c.2.2.2.1.cs)++([.list (c.2.2.2.2.map Bo) .none]))))]),Rl23,ef hs,ef hs,i,h⟩
   ·clear h;rintro e st ⟨d,Xk28,Rk28,rfl,rfl,i,h⟩
    rw [Ec] at h
    refine td O v y g i ?_
    obtain ⟨am,h⟩:=Aj h
    refine rl [3,36,37,38] hs (fun e s=>Vl23 ml23 e s (Nat.lt_succ_self _)) ?_
    exact ⟨d,(a+1),([]),Rk28,ef hs,ef hs,i,h⟩
  refine sk [3] hs l ?_
  exact ⟨1,([]),Rw,ef hs,ef hs,i,h⟩
 ·clear h;rintro e st ⟨j,Xk4,Rk4,rfl,rfl,i,h⟩
  rw [Eu] at h
  refine td O v y g i ?_
  refine rg [2] hs ?_
  exact rt h hs g i
theorem Og (w0:World):∀ n:Nat,LI w0 (DV n)
 | 0=>fun _ _ _ _ _ h=>(nomatch h)
 | n+1=>Rt w0 (DV n) (Og w0 n) n
def HL (rec:Ty→Option Int) (n:Nat)  (b:Int):Option Int :=
 some (b)
def C7 (rec:Ty→Option Int) (n:Nat) (q:Ty):Nat→Int→Int→Option Int
 | 0,_,_=>none
 | m+1,g,b =>
  if decide (b<(q.fields.length:Int)) then
   (Cb q.fields b).bind fun s =>
   (rec s.2.2.2.1).bind fun h =>
   if BV (b+1) then
    (C7 rec n q m) ((if g<h then h else g)) (b+1)
   else none
  else
   HL rec n g
def Ib (rec:Ty→Option Int) (n:Nat) (g:Ty) (b:Int):Option Int :=
 C7 rec n g n b 0
def Du (rec:Ty→Option Int) (n:Nat) (q:Ty):Nat→Int→Int→Option Int
 | 0,_,_=>none
 | m+1,g,b =>
  if decide (b<(q.elem.length:Int)) then
   (Cb q.elem b).bind fun s =>
   (rec s).bind fun h =>
   if BV (b+1) then
    (Du rec n q m) ((if g<h then h else g)) (b+1)
   else none
  else
   Ib rec n q g
def G7 (rec:Ty→Option Int) (n:Nat) (b:Ty):Option Int :=
 (DV n b).bind fun g =>
 Du rec n b n g 0
def Df:Nat→Ty→Option Int
 | 0,_=>none
 | n+1,b=>G7 (Df n) n b
def IQ (w0:World) (F:Ty→Option Int):Prop:=∀ (B:List (List AV)) (Rw:List RowA) (L:List LoopA) (b:Ty) (r:Int),F b=some r→ACalls Tryz.prog w0 81 [.agg (b.cs)] ⟨B,Rw,L⟩ fun x st=>x = .val (.int .i64 r)∧st=⟨B,Rw,L⟩
theorem O5 (w0:World) (rec:Ty→Option Int) (ih:IQ w0 rec) (n:Nat):IQ w0 (G7 rec n):=by
 intro B Rw L a0 r h
 rw [G7] at h
 refine hd [.tmp 2] Tryz.func81 Tryz.ntmps81 fun M0 W0 O o p g hu k hs=>?_
 simp only [Au]
 refine rg [1] hs ?_
 obtain ⟨y3,Z,h⟩:=bind_some h
 refine rc 2 [1,3] hs ?_;intro K2 K
 refine Ai _ (Og w0 n _ _ _ a0 _ Z) (hv hs) ?_
 refine ne hs K ?_
 clear K
 refine Av (fun e st=>∃ (j:Int),Ck e st B Rw L [(1,true,.box B.length 0),(3,true,.val (.int .i64 j))] [a0.cs] [] (Ib rec n a0 j=some r)) ?_ ?_
 ·intro K6 Y
  refine rg [1,3,11,12,13] hs ?_
  apply Ak
  refine AC (fun m e st=>∃ (c:Int) (d:Int),Ck e st B Rw L [(1,true,.box B.length 0),(3,true,.val (.int .i64 c)),(11,true,.list (a0.elem.map Ia) .none),(12,true,.val (.int .i64 (a0.elem.length:Int))),(13,true,.val (.int .i64 d))] [a0.cs] [] (Du rec n a0 m c d=some r)) n ⟨y3,0,([]),Rw,ef hs,ef hs,k,h⟩ ?_
  rintro ml8 e st ⟨c,d,Xl8,Rl8,rfl,rfl,k,h⟩ Ul8 Vl8
  cases ml8 with
  | zero=>cases h
  | succ ml8 =>
  rw [Du] at h
  refine td O o p g k ?_
  refine rg [1,3,11,12,13,14] hs ?_
  apply Ah;intro K10 q
  refine AL h hs (fun hs h=>?_) (fun hs h=>?_)
  rotate_left
  ·refine sx [1,3] hs Y ?_
   exact ⟨c,([]),Rl8,ef hs,ef hs,k,h⟩
  refine sk [1,3,11,12,13] hs q ?_
  clear q
  apply Ah;intro K12 t
  apply Ak
  obtain ⟨J,G,h⟩:=bind_some h
  obtain ⟨U,aa,w⟩:=AA G
  have z:=AB (f:=Ia) w
  have hs:=Aa z hs
  refine rg [1,3,5,11,12,13] hs ?_
  obtain ⟨N,F,h⟩:=bind_some h
  refine rk 2 [1,3,11,12,13] hs ?_
  refine Ai _ (ih _ _ _ J _ F) (hv hs) ?_
  refine ne hs t ?_
  clear t
  obtain ⟨ab,h⟩:=Aj h
  refine rl [1,3,11,12,13] hs (fun e s=>Vl8 ml8 e s (Nat.lt_succ_self _)) ?_
  exact ⟨((if c<N then N else c)),(d+1),([J.cs]),Rl8,ef hs,ef hs,k,h⟩
 ·clear h;rintro e st ⟨j,Xk5,Rk5,rfl,rfl,k,h⟩
  rw [Ib] at h
  refine td O o p g k ?_
  refine Av (fun e st=>∃ (i:Int),Ck e st B Rw L [(3,true,.val (.int .i64 i))] [a0.cs] [] (HL rec n i=some r)) ?_ ?_
  ·intro K19 D
   refine rg [3,23,24,25] hs ?_
   apply Ak
   refine AC (fun m e st=>∃ (a:Int) (b:Int),Ck e st B Rw L [(3,true,.val (.int .i64 a)),(23,true,.list (a0.fields.map Da) .none),(24,true,.val (.int .i64 (a0.fields.length:Int))),(25,true,.val (.int .i64 b))] [a0.cs] [] (C7 rec n a0 m a b=some r)) n ⟨j,0,([]),Rk5,ef hs,ef hs,k,h⟩ ?_
   rintro ml21 e st ⟨a,b,Xl21,Rl21,rfl,rfl,k,h⟩ Ul21 Vl21
   cases ml21 with
   | zero=>cases h
   | succ ml21 =>
   rw [C7] at h
   refine td O o p g k ?_
   refine rg [3,23,24,25,26] hs ?_
   apply Ah;intro K23 u
   refine AL h hs (fun hs h=>?_) (fun hs h=>?_)
   rotate_left
   ·refine sx [3] hs D ?_
    exact ⟨a,([]),Rl21,ef hs,ef hs,k,h⟩
   refine sk [3,23,24,25] hs u ?_
   clear u
   apply Ah;intro K25 v
   apply Ak
   obtain ⟨l,E,h⟩:=bind_some h
   obtain ⟨V,Q,y⟩:=AA E
   have x:=AB (f:=Da) y
   have hs:=Aa x hs
   refine rg [3,7,23,24,25] hs ?_
   obtain ⟨C,H,h⟩:=bind_some h
   refine rk 2 [3,23,24,25] hs ?_
   refine Ai _ (ih _ _ _ l.2.2.2.1 _ H) (hv hs) ?_
   refine ne hs v ?_
   clear v
   obtain ⟨ad,h⟩:=Aj h
   refine rl [3,23,24,25] hs (fun e s=>Vl21 ml21 e s (Nat.lt_succ_self _)) ?_
   exact ⟨((if a<C then C else a)),(b+1),([.val (.int .i64 l.1)::(.val (.string l.2.1)::(.val (.int .i64 l.2.2.1)::((l.2.2.2.1.cs)++([.list (l.2.2.2.2.map Bo) .none]))))]),Rl21,ef hs,ef hs,k,h⟩
  ·clear h;rintro e st ⟨i,Xk18,Rk18,rfl,rfl,k,h⟩
   rw [HL] at h
   refine td O o p g k ?_
   refine rg [2] hs ?_
   exact rt h hs g k
theorem KV (w0:World):∀ n:Nat,IQ w0 (Df n)
 | 0=>fun _ _ _ _ _ h=>(nomatch h)
 | n+1=>O5 w0 (Df n) (KV w0 n) n
def DR (n:Nat) (h:Ty):Option Int :=
 (IE n h 1 4096).bind fun g =>
 if !(decide (g.1=0)) then
  some (g.1)
 else
  (Df n h).bind fun b =>
  if decide (4096<b) then
   some (9)
  else
   some (0)
theorem Px (w0:World) (hT:Lib.Utf8Tabs 0 1 w0) (n:Nat) (B:List (List AV)) (Rw:List RowA) (L:List LoopA) (a0:Ty) (r:Int) (h:DR n a0=some r) :
  ACalls Tryz.prog w0 30 [.agg (a0.cs)] ⟨B,Rw,L⟩ fun x st=>x = .val (.int .i64 r)∧st=⟨B,Rw,L⟩:=by
 rw [DR] at h
 refine hd [.tmp 2] Tryz.func30 Tryz.ntmps30 fun M0 W0 p l j a m g hs=>?_
 simp only [Au]
 refine rg [1] hs ?_
 refine rg [1,3] hs ?_
 apply Ah;intro K3 e
 obtain ⟨o,i,h⟩:=bind_some h
 refine rc 2 [1,4] hs ?_;intro K4 f
 refine Bt _ (Uc w0 hT n _ _ _ a0 1 (B.length+1) 4096 ev _ i) (hv hs) ?_;rintro _ _ ⟨rfl,rfl⟩
 refine ne hs f ?_
 clear f
 refine rg [1,4,8] hs ?_
 refine AL h hs (fun hs h=>?_) (fun hs h=>?_)
 ·refine rg [2] hs ?_
  exact rt h hs a g
 refine sk [1] hs e ?_
 clear e
 apply Ah;intro K9 c
 obtain ⟨k,d,h⟩:=bind_some h
 refine rc 2 [12] hs ?_;intro K10 b
 refine Ai _ (KV w0 n _ _ _ a0 _ d) (hv hs) ?_
 refine ne hs b ?_
 clear b
 refine AL h hs (fun hs h=>?_) (fun hs h=>?_)
 ·refine rg [2] hs ?_
  exact rt h hs a g
 refine sk [] hs c ?_
 clear c
 refine rg [2] hs ?_
 exact rt h hs a g
def Dm (n:Nat) (h:List (ByteArray × Vl)) (b:(ByteArray × Vl)→Option Bool):Option Bool :=
 (Ce n h b).bind fun g =>
 some (decide (0≤g))
theorem LJ (w0:World) (n:Nat) (B:List (List AV)) (Rw:List RowA) (L:List LoopA) (a0:List (ByteArray × Vl)) (fa1:FuncId) (ca1:List AV) (a1:(ByteArray × Vl)→Option Bool) (ha1:∀ (x0:ByteArray × Vl) r,a1 x0=some r→∀ B' rows,B <+: B'→Rw <+: rows→ACalls Tryz.prog w0 fa1 ([.agg (.val (.string x0.1)::(x0.2.cs))]++ca1) ⟨B',rows,L⟩ fun v s=>v = .val (.bool r)∧s=⟨B',rows,L⟩) (r:Bool) (h:Dm n a0 a1=some r) :
  ACalls Tryz.prog w0 216 [.list (a0.map B9) .none,.clo fa1 ca1] ⟨B,Rw,L⟩ fun x st=>x = .val (.bool r)∧st=⟨B,Rw,L⟩:=by
 rw [Dm] at h
 refine hd [.tmp 4] Tryz.func216 Tryz.ntmps216 fun M0 W0 q l j b i g hs=>?_
 simp only [Au]
 have d:=Ci (i (.clo fa1 ca1) (by simp))
 refine rg [0,1] hs ?_
 obtain ⟨p,e,h⟩:=bind_some h
 refine rc 2 [4] hs ?_;intro K2 c
 refine Ai _ (Iz w0 n _ _ _ a0 fa1 ca1 a1 (fun x0 r o f a m k=>ha1 x0 r o f a (List.IsPrefix.trans px m) (g.pre.trans k)) _ e) (hv hs) ?_
 refine ne hs c ?_
 clear c
 exact rt h hs b g
def DW (b:ByteArray × Vl) (g:ByteArray × Vl):Bool :=
 (DK b.1 g.1)&&(!(B1 b.2))
theorem U7 (w0:World) (B:List (List AV)) (Rw:List RowA) (L:List LoopA) (a0:ByteArray × Vl) (la1:Nat) (a1:ByteArray × Vl) (hla1:B[la1]? = some (.val (.string a1.1)::(a1.2.cs))) (r:Bool) (h:DW a0 a1=r) :
  ACalls Tryz.prog w0 217 [.agg (.val (.string a0.1)::(a0.2.cs)),.box la1 0] ⟨B,Rw,L⟩ fun x st=>x = .val (.bool r)∧st=⟨B,Rw,L⟩:=by
 rw [DW] at h
 refine hd [.tmp 3] Tryz.func217 Tryz.ntmps217 fun M0 W0 i f e a g d hs=>?_
 simp only [Au]
 have c:=(Ag.1 hla1).1
 have hs:=Aa (An hla1) hs
 refine rg [1,2] hs ?_
 refine rc 2 [3] hs ?_;intro K2 b
 refine HB _ (fun _=>Nk w0 _ _ _ a0.2) (hv hs) ?_
 refine ne hs b ?_
 clear b
 exact rT h hs a d
theorem TP (w0:World) (B:List (List AV)) (Rw:List RowA) (L:List LoopA) (a0:ByteArray × Vl) (la1:Nat) (a1:ByteArray × Vl) (hla1:B[la1]? = some (.val (.string a1.1)::(a1.2.cs))) :
  ACalls Tryz.prog w0 217 [.agg (.val (.string a0.1)::(a0.2.cs)),.box la1 0] ⟨B,Rw,L⟩ fun x st=>x = .val (.bool (DW a0 a1))∧st=⟨B,Rw,L⟩:=U7 w0 B Rw L a0 la1 a1 hla1 _ rfl
structure VPre (Rw rows:List RowA):Prop where
 pre:Rw <+: rows
def NJ:ByteArray × Vl:=(⟨#[]⟩,Vl.mk 0 0 0 ⟨#[]⟩ [] [])
def BZ (l:List (ByteArray × Vl)):List (ByteArray × Vl):=L8 Prod.fst NJ l
theorem Gh (l:List (ByteArray × Vl)):(BZ l).length=l.length:=by simp only [BZ,L8,List.length_map];exact Hf _ _
theorem JK (x:ByteArray × Vl):(B9 x).cells.length=7∧A4 (B9 x)=true:=by simp +decide only [go_sem,and_self]
theorem ZW (x:ByteArray × Vl):(B9 x).pub=B9 x:=by simp +decide only [go_sem]
theorem Xn (x:ByteArray × Vl):∀ c∈(B9 x).cells,∀ a b d,Under a b d c:=by
 intro c hc a b d
 simp only [B9,AV.cells,List.mem_cons] at hc
 rcases hc with rfl | hc
 ·exact .val _
 ·exact x.2.under a b d c hc
theorem Zbh (w0:World) (st:St):ACalls Tryz.prog w0 218 [.list [] .none,.clo 219 []] st fun r s=>r = .tup []∧s=st:=by
 refine ⟨A9 Tryz.func218 rfl (by decide),fun M w c e d=>?_⟩
 obtain ⟨v0,v1,rfl⟩:∃ v0 v1,c = #[v0,v1]:=by
  have hs:=d.1
  simp only [List.length_cons,List.length_nil] at hs
  match c,hs with
  | ⟨[a,b]⟩,_=>exact ⟨a,b,rfl⟩
 have h0:R w0 M w v0 (.list [] .none):=d.2 0 (by simp) (by simp)
 obtain ⟨p,cap,rfl⟩:∃ p cap,v0 = .slice p 0 cap:=by
  generalize hx:AV.list [] Ev.Own.none=x at h0
  cases h0 with
  | nil ho=>exact ⟨_,_,rfl⟩
  | emp ho=>exact ⟨_,_,rfl⟩
  | list sz us hc hm hcell hu ho=>cases hx;exact ⟨_,_,rfl⟩
  | _=>cases hx
 have h:=AnyF.slices_SortFunc_none (P:=Tryz.prog) (ρ:=Tryz.laysSort_ren) Tryz.laysSort p cap v1 w
 refine h.mono ?_
 rintro en g ⟨rfl,rfl⟩
 exact ⟨.tuple #[],M,.tup [],st,rfl,⟨rfl,rfl⟩,.refl _ _ _,e,.tup rfl (fun i f _=>absurd f (by simp))⟩
theorem Zbr (w0:World) {st:St} {id ver:Nat} (l:List (ByteArray × Vl)) (hid:st.rows[id]? = some (.vec ver 7 (l.flatMap fun x=>(B9 x).cells))) (hn:0<l.length) (hz:l.length<4611686018427387904) :
  ACalls Tryz.prog w0 218 [.vec id ver 0 l.length,.clo 219 []] st fun r s=>r = .tup []∧s={ st with rows:=st.rows.set id (.vec ver 7 ((BZ l).flatMap fun x=>(B9 x).cells)) } :=
 ZbD (ρ:=Tryz.laysSort_ren) Tryz.laysSort (A9 Tryz.func218 rfl (by decide)) 6 Tryz.isAgg75 Tryz.sizeOf75 219 (A9 Tryz.func219 rfl (by decide))
  (fun s e r f W c b a d=>ZD s e r f W c b a d) B9 Prod.fst NJ l (fun x=>⟨x.2.cs,rfl,Vl.cs_length _⟩) hid hn hz
def Im (n:Nat) (g:Int→(List (ByteArray × Vl))→Option Vl) (b:Int) (b1_k12_5:List (ByteArray × Vl)):Option Vl :=
 if BV (b+1) then
  g (b+1) b1_k12_5
 else none
def Jo (n:Nat)  (b1_k4_5:List (ByteArray × Vl)):Option Vl :=
 if b1_k4_5.length<4611686018427387904 then
  (BN n (Vl.mk 9 0 0 ((⟨#[]⟩:ByteArray)) ([]) (BZ b1_k4_5))).bind fun b =>
  some (b)
 else none
def Ek (n:Nat) (g:List (ByteArray × Vl)):Nat→Int→(List (ByteArray × Vl))→Option Vl
 | 0,_,_=>none
 | m+1,b,b1_l7_5 =>
  if decide (b<(g.length:Int)) then
   (Cb g b).bind fun h =>
   if BV (b+1) then
    if 0≤b+1∧b+1≤(g.length:Int)∧(g.length:Int)≤(g.length:Int) then
     (Dm n (g.drop (b+1).toNat) (fun (s:ByteArray × Vl)=>some (DW s h))).bind fun q =>
     if (!(B1 h.2))&&(!q) then
      if (b1_l7_5.length+1)*104≤140737488355328∧b1_l7_5.length+1≤4611686018427387904 then
       Im n (Ek n g m) b (b1_l7_5++([h]))
      else none
     else
      Im n (Ek n g m) b b1_l7_5
    else none
   else none
  else
   Jo n b1_l7_5
def J8 (n:Nat) (b:List (ByteArray × Vl)):Option Vl :=
 Ek n b n 0 ([])
theorem Yy (w0:World) (n:Nat) (B:List (List AV)) (Rw:List RowA) (L:List LoopA) (a0:List (ByteArray × Vl)) (r:Vl) (h:J8 n a0=some r) :
  ACalls Tryz.prog w0 171 [.list (a0.map B9) .none] ⟨B,Rw,L⟩ fun x st=>x = .agg (r.cs)∧st=⟨B,Rw,L⟩:=by
 rw [J8] at h
 refine hd [.cell 2 46] Tryz.func171 Tryz.ntmps171 fun M0 W0 U F H k hu l hs=>?_
 simp only [Au]
 refine rg [0,2] hs ?_
 apply Ah;intro K2 O
 apply Ao 1 [0,2,3]
 rw [Am];simp +decide only [go_sem,Nat.reduceAdd,P9,Oz,JB]
 (repeat' apply Aa)<;>first | refine O _ _ ?_ | exact cl
 clear O
 refine Av (fun e st=>∃ (a:List (ByteArray × Vl)) (j:AV) (Xk4:List (List AV)) (Rk4:List RowA),e=[(2,true,.box B.length 0),(3,true,.box (B.length+1) 0)]∧st=⟨B++([[.val (.int .i64 0),.val (.int .i64 0),.val (.int .i64 0),.val (.string ((⟨#[]⟩:ByteArray))),.list ([]) .full,.list ([]) .full],[.val (.int .i64 9),.val (.int .i64 0),.val (.int .i64 0),.val (.string ((⟨#[]⟩:ByteArray))),.list ([]) .full,j]]++Xk4),Rk4,L⟩∧VOne Rw Rk4 7 (a.map B9) j∧Jo n a=some r) ?_ ?_
 ·intro K5 Y
  refine Qz (B.length+1) 5 (by first | rfl | (simp only [JM,Iu];rfl)) rfl ?_;simp +decide only [go_sem,Nat.reduceAdd,List.set_cons_succ,List.set_cons_zero]
  refine rg [0,2,3,8,9,10] hs ?_
  apply Ak
  refine AC (fun m e st=>∃ (d:Int) (b:List (ByteArray × Vl)) (c:AV) (Xl7:List (List AV)) (Rl7:List RowA),e=[(0,true,.list (a0.map B9) .none),(2,true,.box B.length 0),(3,true,.box (B.length+1) 0),(8,true,.list (a0.map B9) .none),(9,true,.val (.int .i64 (a0.length:Int))),(10,true,.val (.int .i64 d))]∧st=⟨B++([[.val (.int .i64 0),.val (.int .i64 0),.val (.int .i64 0),.val (.string ((⟨#[]⟩:ByteArray))),.list ([]) .full,.list ([]) .full],[.val (.int .i64 9),.val (.int .i64 0),.val (.int .i64 0),.val (.string ((⟨#[]⟩:ByteArray))),.list ([]) .full,c]]++Xl7),Rl7,L⟩∧VOne Rw Rl7 7 (b.map B9) c∧Ek n a0 m d b=some r) n ⟨0,[],.list [] .seed,[],Rw,ef hs,ef hs,VOne.none Rw 7,h⟩ ?_
  rintro ml7 e st ⟨d,b,c,Xl7,Rl7,rfl,rfl,l,h⟩ Ul7 Vl7
  cases ml7 with
  | zero=>cases h
  | succ ml7 =>
  rw [Ek] at h
  have hU:=l.under (B.length+2) L.length
  refine tdV U F H k l ?_
  refine rg [0,2,3,8,9,10,11] hs ?_
  apply Ah;intro K9 J
  refine AL h hs (fun hs h=>?_) (fun hs h=>?_)
  rotate_left
  ·refine sx [2,3] hs Y ?_
   exact ⟨b,c,([]),Rl7,ef hs,ef hs,VOne.of_eq l (by simp only [List.map_append,List.map_cons,List.map_nil]),h⟩
  refine sk [0,2,3,8,9,10] hs J ?_
  clear J
  refine Av (fun e st=>∃ (i:List (ByteArray × Vl)) (g:AV) (Xk12:List (List AV)) (Rk12:List RowA),e=[(0,true,.list (a0.map B9) .none),(2,true,.box B.length 0),(3,true,.box (B.length+1) 0),(8,true,.list (a0.map B9) .none),(9,true,.val (.int .i64 (a0.length:Int))),(10,true,.val (.int .i64 d))]∧st=⟨B++([[.val (.int .i64 0),.val (.int .i64 0),.val (.int .i64 0),.val (.string ((⟨#[]⟩:ByteArray))),.list ([]) .full,.list ([]) .full],[.val (.int .i64 9),.val (.int .i64 0),.val (.int .i64 0),.val (.string ((⟨#[]⟩:ByteArray))),.list ([]) .full,g]]++Xk12),Rk12,L⟩∧VOne Rw Rk12 7 (i.map B9) g∧Im n (Ek n a0 ml7) d i=some r) ?_ ?_
  ·intro K13 C
   apply Ak
   obtain ⟨x15,N,h⟩:=bind_some h
   obtain ⟨ad,V,G⟩:=AA N
   have E:=AB (f:=B9) G
   have hs:=Aa E hs
   refine rg [0,2,3,4,5,8,9,10] hs ?_
   obtain ⟨ah,h⟩:=Aj h
   obtain ⟨aj,h⟩:=Aj h
   obtain ⟨ak,hy19,h⟩:=bind_some h
   refine rc 2 [0,2,3,5,6,8,9,10] hs ?_;intro K16 v
   refine Ai _ (LJ w0 n _ _ _ (a0.drop (d+1).toNat) 217 [.box (B.length+2) 0] (fun (x0:ByteArray × Vl)=>some (DW x0 x15)) (fun x0 r hx B' af hB' am=>by cases hx;exact TP w0 _ _ _ x0 _ x15 (DI hB' (ef hs))) _ hy19) (hv hs) ?_
   refine ne hs v ?_
   clear v
   refine rc 2 [0,2,3,5,8,9,10,28] hs ?_;intro K20 w
   refine Ai _ (Nk w0 _ _ _ x15.2) (hv hs) ?_
   refine ne hs w ?_
   clear w
   refine AL h hs (fun hs h=>?_) (fun hs h=>?_)
   ·obtain ⟨D,h⟩:=Aj h
    obtain ⟨Q,u,l,o⟩:=l.append (P:=Tryz.prog) (y:=B9 x15) Pl (by rw [Kv];rfl) (by decide) (by rw [List.length_map];exact D.1) (by rw [List.length_map];exact D.2) (JK x15) (ZW x15) (Xn x15) (fun z hz=>by obtain ⟨y,_,rfl⟩:=List.mem_map.1 hz;exact (JK y).1)
    simp only [GG] at o
    replace o:=Aa o l.cell
    have hs:=Aa o hs
    refine rl [0,2,3,8,9,10] hs C ?_
    exact ⟨(b++([x15])),Q,([.val (.string x15.1)::(x15.2.cs)]),u,ef hs,ef hs,VOne.of_eq l (by simp only [List.map_append,List.map_cons,List.map_nil]),h⟩
   refine sk [0,2,3,8,9,10] hs C ?_
   exact ⟨b,c,([.val (.string x15.1)::(x15.2.cs)]),Rl7,ef hs,ef hs,VOne.of_eq l (by simp only [List.map_append,List.map_cons,List.map_nil]),h⟩
  ·clear h;rintro e st ⟨i,g,Xk12,Rk12,rfl,rfl,l,h⟩
   rw [Im] at h
   have hU:=l.under (B.length+2) L.length
   refine tdV U F H k l ?_
   obtain ⟨ai,h⟩:=Aj h
   refine rl [0,2,3,8,9,10] hs (fun e s=>Vl7 ml7 e s (Nat.lt_succ_self _)) ?_
   exact ⟨(d+1),i,g,([]),Rk12,ef hs,ef hs,VOne.of_eq l (by simp only [List.map_append,List.map_cons,List.map_nil]),h⟩
 ·clear h;rintro e st ⟨a,j,Xk4,Rk4,rfl,rfl,l,h⟩
  rw [Jo] at h
  have hU:=l.under (B.length+2) L.length
  refine tdV U F H k l ?_
  obtain ⟨ae,h⟩:=Aj h
  rcases l.at_ with ⟨hnil,rfl⟩ | ⟨id,ver,rfl,hpos,hid,hrow⟩
  ·have hb0:a=[]:=List.map_eq_nil_iff.1 hnil
   subst hb0
   refine rc 2 [2,3] hs ?_;intro K27 q
   refine Ai _ (Zbh w0 _) (hv hs) ?_
   refine ne hs q ?_
   clear q
   obtain ⟨ab,t,h⟩:=bind_some h
   rw [show BZ []=[] from List.eq_nil_of_length_eq_zero (Gh [])] at t
   refine rc 2 [2] hs ?_;intro K28 p
   refine Ai _ (GO w0 n _ _ _ (Vl.mk 9 0 0 ((⟨#[]⟩:ByteArray)) ([]) []) _ t) (hv hs) ?_
   refine ne hs p ?_
   clear p
   exact rt h hs k l
  ·rw [List.length_map] at hpos
   rw [List.length_map]
   rw [show ((a.map B9).flatMap AV.cells)=a.flatMap fun x=>(B9 x).cells from List.flatMap_map ..] at hrow
   refine rc 2 [2,3] hs ?_;intro K27 q
   refine Bt _ (Zbr w0 (st:=⟨_,_,_⟩) a hrow hpos ae) (hv hs) ?_;rintro _ _ ⟨rfl,rfl⟩
   refine ne hs q ?_
   clear q
   have ag:=(Ag.1 hrow).1
   have Z:EQ (Rk4.set id (.vec ver 7 ((BZ a).flatMap fun x=>(B9 x).cells))) id ver=some (7,(BZ a).flatMap fun x=>(B9 x).cells):=by simp [EQ,ag]
   have K:(BZ a).length=a.length:=Gh _
   refine Ox (B.length+1) 5 true (by first | rfl | (simp only [JM,Iu];rfl)) rfl Z (.inl rfl) (by rw [Nat.zero_add,ON (fun x _=>(JK x).1),K];exact Nat.le_refl _) ?_
   have aa:O2 7 true ((BZ a).flatMap fun x=>(B9 x).cells) 0 a.length=(BZ a).map B9:=by
    have:=Zbq (ys:=(BZ a).map B9) (sz:=7) (fun y hy=>by obtain ⟨x,_,rfl⟩:=List.mem_map.1 hy;exact ⟨_,rfl,(JK x).1⟩)
    rw [List.length_map,K,List.flatMap_map] at this
    exact this
   rw [aa]
   simp +decide only [go_sem,Nat.reduceAdd,List.set_cons_succ,List.set_cons_zero]
   obtain ⟨ab,t,h⟩:=bind_some h
   have l:VPre Rw ((Rk4.set id (.vec ver 7 ((BZ a).flatMap fun x=>(B9 x).cells))).set id (.dead (ver+1))):=⟨JO (JO l.pre hid _) hid _⟩
   refine rc 2 [2] hs ?_;intro K28 p
   refine Ai _ (GO w0 n _ _ _ (Vl.mk 9 0 0 ((⟨#[]⟩:ByteArray)) ([]) (BZ a)) _ t) (hv hs) ?_
   refine ne hs p ?_
   clear p
   exact rt h hs k l
def Jy (n:Nat) (h:ByteArray) (b:Vl):Option Vl :=
 (BN n (Vl.mk 10 0 0 h ([b]) ([]))).bind fun g =>
 some (g)
theorem Xc (w0:World) (n:Nat) (B:List (List AV)) (Rw:List RowA) (L:List LoopA) (a0:ByteArray) (a1:Vl) (r:Vl) (h:Jy n a0 a1=some r) :
  ACalls Tryz.prog w0 134 [.val (.string a0),.agg (a1.cs)] ⟨B,Rw,L⟩ fun x st=>x = .agg (r.cs)∧st=⟨B,Rw,L⟩:=by
 rw [Jy] at h
 refine hd [.cell 4 46] Tryz.func134 Tryz.ntmps134 fun M0 W0 j f e a g d hs=>?_
 simp only [Au]
 refine rg [0,3,4] hs ?_
 obtain ⟨i,c,h⟩:=bind_some h
 refine rc 2 [4] hs ?_;intro K2 b
 refine Ai _ (GO w0 n _ _ _ (Vl.mk 10 0 0 a0 ([a1]) ([])) _ c) (hv hs) ?_
 refine ne hs b ?_
 clear b
 exact rt h hs a d
def N5 {α:Type} (p:α→Bool) (l:List α) (j:Nat):Int :=
 if (l.drop j).findIdx p<(l.drop j).length then (j:Int)+((l.drop j).findIdx p:Nat) else -1
theorem Lm {α:Type} (p:α→Bool) (l:List α) (j:Nat) (h:l.length≤j):N5 p l j = -1:=by
 unfold N5
 rw [List.drop_eq_nil_of_le h];rfl
theorem Jn {α:Type} (p:α→Bool) (l:List α) (j:Nat) (h:j<l.length):N5 p l j=if p l[j]=true then (j:Int) else N5 p l (j+1):=by
 unfold N5
 rw [List.drop_eq_getElem_cons h,List.findIdx_cons]
 cases hp:p l[j] with
 | true=>simp;omega
 | false =>
  simp only [cond_false,List.length_cons,Bool.false_eq_true,if_false]
  by_cases q:(l.drop (j+1)).findIdx p<(l.drop (j+1)).length
  ·rw [Ae (by omega),Ae q];push_cast;omega
  ·rw [Af (by omega),Af q]
theorem Rk {α:Type} (p:α→Bool) (l:List α):∀ (k j:Nat),j+k=l.length→N5 p l j = -1∨∃ i,∃ h:i<l.length,N5 p l j=(i:Int)∧p l[i]=true
 | 0,j,h => .inl (Lm p l j (by omega))
 | k+1,j,h=>by
  have a:j<l.length:=by omega
  rw [Jn p l j a]
  by_cases hp:p l[j]=true
  ·rw [Ae hp];exact .inr ⟨j,a,rfl,hp⟩
  ·rw [Af hp];exact Rk p l k (j+1) (by omega)
theorem Q5 (n:Nat) (l:List TF) (p:TF→Bool) (hl:l.length≤1000000000):∀ (k m i:Nat),i+k=l.length→k<m→AN n l (fun x=>some (p x)) m i=some (N5 p l i)
 | k,0,i,_,h=>absurd h (Nat.not_lt_zero _)
 | 0,m+1,i,hi,_=>by
  rw [AN,As,Ac (by omega),Lm p l i (by omega)]
  rfl
 | k+1,m+1,i,hi,hm=>by
  have a:i<l.length:=by omega
  rw [AN,As,Ad a]
  simp only [if_true,Ax a,Ab]
  rw [Jn p l i a]
  by_cases hp:p l[i]=true
  ·rw [Ae hp,Ae hp]
  ·rw [Af hp,Af hp,Ae (Aw (by omega))]
   exact Q5 n l p hl k m (i+1) (by omega) (by omega)
def MN:TF:=(0,(⟨#[]⟩:ByteArray),0,Ty.mk 0 0 0 0 [] [] [],[])
theorem ZfB (n:Nat) (t:Ty) (p:TF→Bool) (hn:t.size+1450000≤n) (ht:t.small) :
  (t.kind≠9∧t.kind≠10∧Jp n t (fun x=>some (p x))=some (MN,false)) ∨
  ((t.kind=9∨t.kind=10)∧((N5 p t.fields 0 = -1∧Jp n t (fun x=>some (p x))=some (MN,false))∨∃ i,∃ h:i<t.fields.length,N5 p t.fields 0=(i:Int)∧Jp n t (fun x=>some (p x))=some (t.fields[i],true))):=by
 obtain ⟨g,f,b⟩:=ht
 have d:=t.lens
 rw [Jp]
 by_cases hk:t.kind=9∨t.kind=10
 ·right
  refine ⟨hk,?_⟩
  rw [Af (by simp only [Bool.and_eq_true,Bool.not_eq_true',decide_eq_false_iff_not];omega)]
  rw [AW]
  have e:=Q5 n t.fields p (by omega) t.fields.length n 0 (by omega) (by omega)
  rw [show ((0:Nat):Int)=0 from rfl] at e
  rw [e]
  simp only [Ab]
  rcases Rk p t.fields t.fields.length 0 (by omega) with q | ⟨i,hi,q,hp⟩
  ·rw [q];left;exact ⟨rfl,rfl⟩
  ·rw [q];right
   refine ⟨i,hi,rfl,?_⟩
   rw [Ac (by omega)]
   simp only [Bool.false_eq_true,if_false,Ax hi,Ab]
   obtain ⟨_,c,j,a⟩:=(t.ok_eq.1 b).2.2.2 _ (List.getElem_mem hi)
   have hs:=t.field_size _ (List.getElem_mem hi)
   rw [Zdd (G6 n) n t.fields[i] (by omega) (by omega) (fun v hv=>Rj n v (by have:=(a v hv).1;omega) (by have:=(a v hv).1;omega)) (QX n _ (by omega) (by omega) c)]
   rfl
 ·left
  refine ⟨fun h=>hk (.inl h),fun h=>hk (.inr h),?_⟩
  rw [Ae (by simp only [Bool.and_eq_true,Bool.not_eq_true',decide_eq_false_iff_not];omega)]
  rfl
def CH (b:Ty) (g:Int) (h:Int):Bool :=
 ((decide (g≤b.min))&&(decide (b.max≤h)))&&(decide (b.min≤b.max))
def LF (g:Int) (b:Bool):(Int × Int) :=
 if b then
  (0,1024)
 else
  if decide (g=6) then
   ((-719162),2932896)
  else
   if decide (g=7) then
    ((-62135596800000),253402300799999)
   else
    (0,256)
def Nw (g:Int) (b:Bool):(Int × Int) :=
 if b then
  ((-999999999999999),999999999999999)
 else
  if decide (g=4) then
   LF g true
  else
   LF g (decide (g=5))
def AO (b:Int):(Int × Int) :=
 if decide (b=2) then
  Nw b true
 else
  Nw b (decide (b=3))
def BE (b:Ty):Bool :=
 (((((!(decide (2≤b.kind)&&decide (b.kind≤8)))&&((!(decide (b.min=0)))||(!(decide (b.max=0)))))||((!(decide (b.kind=3)))&&(!(decide (b.scale=0)))))||((!(decide (b.kind=4)))&&(decide (0<(b.words.length:Int)))))||((!(decide (b.kind=8)))&&(decide (0<(b.elem.length:Int)))))||(((!(decide (b.kind=9)))&&(!(decide (b.kind=10))))&&(decide (0<(b.fields.length:Int))))
end Go.Proofs.YtgpmlelfkjfbiaaGreatDoor
