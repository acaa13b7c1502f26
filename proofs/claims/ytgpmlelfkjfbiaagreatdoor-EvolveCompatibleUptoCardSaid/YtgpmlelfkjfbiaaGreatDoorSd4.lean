/-
  Part 4 of the proof: rules and walks that the claim's last text uses.
-/
import Derived.Test.YtgpmlelfkjfbiaaGreatDoorSd3
set_option linter.unusedSimpArgs false
set_option linter.unusedVariables false
set_option maxRecDepth 100000
set_option maxHeartbeats 4000000
namespace Go.Proofs.YtgpmlelfkjfbiaaGreatDoor
open Go Go.RowKit Go.Ev
theorem Au {α:Type} {l:List α} {k:Nat} (h:k<l.length):Cb l (k:Int)=some l[k]:=Zg0 h
theorem An {a b:Nat}:decide ((a:Int)<(b:Int))=decide (a<b):=by simp
theorem Ar {k:Nat} (h:k<1000000000000):BR ((k:Int)+1):=by unfold BR;omega
theorem Ty.size_pos (t:Ty):0<t.size:=by cases t;simp [Ty.size];omega
theorem Ty.size_eq (t:Ty):t.size=1+Ha t.elem+EG t.fields:=by cases t;simp [Ty.size,Ty.elem,Ty.fields]
theorem U3:∀ (l:List Ty) (v:Ty),v∈l→v.size≤Ha l
 | [],_,h=>by simp at h
 | a::r,v,h=>by
  rcases List.mem_cons.1 h with rfl | h
  ·simp [Ha]
  ·have:=U3 r v h
   simp [Ha];omega
theorem R7:∀ (l:List (Int × ByteArray × Int × Ty × List Vl)) (p:Int × ByteArray × Int × Ty × List Vl),p∈l→p.2.2.2.1.size≤EG l
 | [],_,h=>by simp at h
 | (a,b,c,t,d)::r,p,h=>by
  rcases List.mem_cons.1 h with rfl | h
  ·simp [EG]
  ·have:=R7 r p h
   simp [EG];omega
theorem Ue:∀ l:List Ty,l.length≤Ha l
 | []=>Nat.le_refl _
 | v::r=>by have:=Ue r;have:=v.size_pos;simp [Ha];omega
theorem R2:∀ l:List (Int × ByteArray × Int × Ty × List Vl),l.length≤EG l
 | []=>Nat.le_refl _
 | (_,_,_,t,_)::r=>by have:=R2 r;have:=t.size_pos;simp [EG];omega
theorem Ty.elem_size (t x:Ty) (h:x∈t.elem):x.size<t.size:=by have:=U3 _ _ h;have:=t.size_eq;omega
theorem Ty.field_size (t:Ty) (p) (h:p∈t.fields):p.2.2.2.1.size<t.size:=by have:=R7 _ _ h;have:=t.size_eq;omega
theorem Ty.lens (t:Ty):t.elem.length<t.size∧t.fields.length<t.size:=by have:=Ue t.elem;have:=R2 t.fields;have:=t.size_eq;omega
theorem Vl.list_size (v x:Vl) (h:x∈v.list):x.size<v.size:=by have:=Nq _ _ h;have:=v.size_eq;omega
theorem Vl.field_size (v:Vl) (p) (h:p∈v.fields):p.2.size<v.size:=by have:=NE _ _ h;have:=v.size_eq;omega
mutual
def Ty.depth:Ty→Nat
 | .mk _ _ _ _ _ e f=>1+max (DZ e) (Db f)
def DZ:List Ty→Nat
 | []=>0
 | t::r=>max t.depth (DZ r)
def Db:List (Int × ByteArray × Int × Ty × List Vl)→Nat
 | []=>0
 | (_,_,_,t,_)::r=>max t.depth (Db r)
end
mutual
def Vl.ok:Vl→Prop
 | .mk _ _ _ t l f=>t.size≤1048576∧Zag l∧Zx f
def Zag:List Vl→Prop
 | []=>True
 | v::r=>v.ok∧Zag r
def Zx:List (ByteArray × Vl)→Prop
 | []=>True
 | (n,v)::r=>n.size≤1048576∧v.ok∧Zx r
end
theorem XU:∀ l,Zag l↔∀ v∈l,v.ok
 | []=>by simp [Zag]
 | v::r=>by simp [Zag,XU r]
theorem Yz:∀ l,Zx l↔∀ p∈l,p.1.size≤1048576∧p.2.ok
 | []=>by simp [Zx]
 | (n,v)::r=>by simp [Zx,Yz r,and_assoc]
def Vl.small (v:Vl):Prop:=v.size≤1048575∧v.depth≤1048576∧v.ok
mutual
def Ty.ok:Ty→Prop
 | .mk _ _ _ _ w e f=>w.length≤1048576∧(∀ x∈w,x.size≤1048576)∧Zbb e∧VS f
def Zbb:List Ty→Prop
 | []=>True
 | v::r=>v.ok∧Zbb r
def VS:List (Int × ByteArray × Int × Ty × List Vl)→Prop
 | []=>True
 | (_,n,_,t,d)::r=>(n.size≤1048576∧t.ok∧d.length≤1048576∧∀ v∈d,v.small)∧VS r
end
theorem YJ:∀ l,Zbb l↔∀ v∈l,v.ok
 | []=>by simp [Zbb]
 | v::r=>by simp [Zbb,YJ r]
theorem WA:∀ l,VS l↔∀ p∈l,p.2.1.size≤1048576∧p.2.2.2.1.ok∧p.2.2.2.2.length≤1048576∧∀ v∈p.2.2.2.2,v.small
 | []=>by simp [VS]
 | (_,n,_,t,d)::r=>by simp [VS,WA r]
theorem Ty.ok_eq (t:Ty):t.ok↔t.words.length≤1048576∧(∀ x∈t.words,x.size≤1048576)∧(∀ v∈t.elem,v.ok)∧∀ p∈t.fields,p.2.1.size≤1048576∧p.2.2.2.1.ok∧p.2.2.2.2.length≤1048576∧∀ v∈p.2.2.2.2,v.small:=by
 cases t;simp only [Ty.ok,Ty.words,Ty.elem,Ty.fields,YJ,WA]
theorem Vl.ok_eq (v:Vl):v.ok↔v.text.size≤1048576∧(∀ x∈v.list,x.ok)∧∀ p∈v.fields,p.1.size≤1048576∧p.2.ok:=by
 cases v;simp only [Vl.ok,Vl.text,Vl.list,Vl.fields,XU,Yz]
theorem MX:∀ (l:List Ty) (d:Nat),DZ l≤d↔∀ v∈l,v.depth≤d
 | [],d=>by simp [DZ]
 | v::r,d=>by simp [DZ,Nat.max_le,MX r d]
theorem KY:∀ (l:List (Int × ByteArray × Int × Ty × List Vl)) (d:Nat),Db l≤d↔∀ v∈l,v.2.2.2.1.depth≤d
 | [],d=>by simp [Db]
 | (_,_,_,t,_)::r,d=>by simp [Db,Nat.max_le,KY r d]
theorem Ty.depth_eq (t:Ty):t.depth=1+Max.max (DZ t.elem) (Db t.fields):=by cases t;simp [Ty.depth,Ty.elem,Ty.fields]
theorem Vl.eta (v:Vl):Vl.mk v.kind v.int v.scale v.text v.list v.fields=v:=by cases v;rfl
theorem Ty.eta (v:Ty):Ty.mk v.kind v.min v.max v.scale v.words v.elem v.fields=v:=by cases v;rfl
theorem TI (rec:Vl→Option Vl) (n:Nat) (v:Vl) (hs:v.fields.length≤1000000000000) (hr:∀ p∈v.fields,rec p.2=some p.2) (b:List Vl):∀ (k m i:Nat),i+k=v.fields.length→k<m→Hg rec n v m i b (v.fields.take i)=some (Vl.mk v.kind v.int v.scale v.text b v.fields)
 | k,0,i,_,h=>absurd h (Nat.not_lt_zero _)
 | 0,m+1,i,hi,_=>by
  rw [Hg,An,decide_eq_false (by omega)]
  simp only [Bool.false_eq_true,if_false,LA]
  rw [List.take_of_length_le (by omega)]
 | k+1,m+1,i,hi,hm=>by
  have a:i<v.fields.length:=by omega
  rw [Hg,An,decide_eq_true a]
  simp only [if_true,Au a,Option.bind_some,hr _ (List.getElem_mem a)]
  rw [if_pos (by rw [List.length_take];omega),if_pos (Ar (by omega))]
  have e:v.fields.take i++[(v.fields[i].1,v.fields[i].2)]=v.fields.take (i+1):=by rw [List.take_succ_eq_append_getElem a]
  rw [e]
  exact TI rec n v hs hr b k m (i+1) (by omega) (by omega)
theorem RF (rec:Vl→Option Vl) (n:Nat) (v:Vl) (hs:v.fields.length≤1000000000000∧v.list.length≤1000000000000) (hn:v.fields.length<n) (hr:(∀ x∈v.list,rec x=some x)∧∀ p∈v.fields,rec p.2=some p.2):∀ (k m i:Nat),i+k=v.list.length→k<m→H5 rec n v m i (v.list.take i)=some v
 | k,0,i,_,h=>absurd h (Nat.not_lt_zero _)
 | 0,m+1,i,hi,_=>by
  rw [H5,An,decide_eq_false (by omega)]
  simp only [Bool.false_eq_true,if_false,Nc]
  rw [List.take_of_length_le (by omega)]
  have:=TI rec n v hs.1 hr.2 v.list v.fields.length n 0 (by omega) hn
  rw [List.take_zero] at this
  exact this.trans (by rw [Vl.eta])
 | k+1,m+1,i,hi,hm=>by
  have a:i<v.list.length:=by omega
  rw [H5,An,decide_eq_true a]
  simp only [if_true,Au a,Option.bind_some,hr.1 _ (List.getElem_mem a)]
  rw [if_pos (by rw [List.length_take];omega),if_pos (Ar (by omega))]
  have e:v.list.take i++[v.list[i]]=v.list.take (i+1):=by rw [List.take_succ_eq_append_getElem a]
  rw [e]
  exact RF rec n v hs hn hr k m (i+1) (by omega) (by omega)
theorem P8:∀ (n:Nat) (v:Vl),v.size<n→v.wide=true→BK n v=some v
 | 0,v,h,_=>absurd h (Nat.not_lt_zero _)
 | n+1,v,h,hs=>by
  have e:=Im v
  obtain ⟨f,g,d,c⟩:=v.wide_iff.1 hs
  rw [BK,MA]
  have:=RF (BK n) n v ⟨by omega,by omega⟩ (by omega) ⟨fun x b=>P8 n x (by have:=v.list_size x b;omega) (d x b),fun p a=>P8 n p.2 (by have:=v.field_size p a;omega) (c p a)⟩ v.list.length n 0 (by omega) (by omega)
  rw [List.take_zero] at this
  exact this
theorem RP (n:Nat) (v:Vl) (h:v.size<n) (hs:v.size≤1000000000):BK n v=some v:=P8 n v h (Hm _ v (Nat.le_refl _) (by omega))
abbrev TF:=Int × ByteArray × Int × Ty × List Vl
theorem ZaQ (rec:Ty→Option Ty) (n:Nat) (p:TF) (y:Ty) (hs:p.2.2.2.2.length≤1000000000) (hr:∀ v∈p.2.2.2.2,BK n v=some v):∀ (k m i:Nat),i+k=p.2.2.2.2.length→k<m→DJ rec n p y m (p.2.2.2.2.take i) i=some (p.1,p.2.1,p.2.2.1,y,p.2.2.2.2)
 | k,0,i,_,h=>absurd h (Nat.not_lt_zero _)
 | 0,m+1,i,hi,_=>by
  rw [DJ,An,decide_eq_false (by omega)]
  simp only [Bool.false_eq_true,if_false,HM]
  rw [List.take_of_length_le (by omega)]
 | k+1,m+1,i,hi,hm=>by
  have a:i<p.2.2.2.2.length:=by omega
  rw [DJ,An,decide_eq_true a]
  simp only [if_true,Au a,Option.bind_some,hr _ (List.getElem_mem a)]
  rw [if_pos (by rw [List.length_take];omega),if_pos (Ar (by omega))]
  have e:p.2.2.2.2.take i++[p.2.2.2.2[i]]=p.2.2.2.2.take (i+1):=by rw [List.take_succ_eq_append_getElem a]
  rw [e]
  exact ZaQ rec n p y hs hr k m (i+1) (by omega) (by omega)
theorem ZcX (rec:Ty→Option Ty) (n:Nat) (p:TF) (hs:p.2.2.2.2.length≤1000000000) (hn:p.2.2.2.2.length<n) (hr:∀ v∈p.2.2.2.2,BK n v=some v) (ht:rec p.2.2.2.1=some p.2.2.2.1):DW rec n p=some p:=by
 rw [DW,ht]
 simp only [Option.bind_some]
 rw [if_pos (by omega)]
 have:=ZaQ rec n p p.2.2.2.1 hs hr p.2.2.2.2.length n 0 (by omega) hn
 rw [List.take_zero] at this
 exact this
theorem Uj (rec:Ty→Option Ty) (n:Nat) (t:Ty) (hw:t.words.length≤1000000000) (hs:t.fields.length≤1000000000) (hr:∀ p∈t.fields,DW rec n p=some p) (e:List Ty):∀ (k m i:Nat),i+k=t.fields.length→k<m→GX rec n t m e (t.fields.take i) i=some (Ty.mk t.kind t.min t.max t.scale t.words e t.fields)
 | k,0,i,_,h=>absurd h (Nat.not_lt_zero _)
 | 0,m+1,i,hi,_=>by
  rw [GX,An,decide_eq_false (by omega)]
  simp only [Bool.false_eq_true,if_false,KW]
  rw [List.take_of_length_le (by omega),if_pos (by omega)]
 | k+1,m+1,i,hi,hm=>by
  have a:i<t.fields.length:=by omega
  rw [GX,An,decide_eq_true a]
  simp only [if_true,Au a,Option.bind_some,hr _ (List.getElem_mem a)]
  rw [if_pos (by rw [List.length_take];omega),if_pos (Ar (by omega))]
  have b:t.fields.take i++[t.fields[i]]=t.fields.take (i+1):=by rw [List.take_succ_eq_append_getElem a]
  rw [b]
  exact Uj rec n t hw hs hr e k m (i+1) (by omega) (by omega)
theorem Wy (rec:Ty→Option Ty) (n:Nat) (t:Ty) (hw:t.words.length≤1000000000) (hs:t.fields.length≤1000000000∧t.elem.length≤1000000000) (hn:t.fields.length<n) (hr:(∀ x∈t.elem,rec x=some x)∧∀ p∈t.fields,DW rec n p=some p):∀ (k m i:Nat),i+k=t.elem.length→k<m→HQ rec n t m (t.elem.take i) i=some t
 | k,0,i,_,h=>absurd h (Nat.not_lt_zero _)
 | 0,m+1,i,hi,_=>by
  rw [HQ,An,decide_eq_false (by omega)]
  simp only [Bool.false_eq_true,if_false,M6]
  rw [List.take_of_length_le (by omega),if_pos (by omega)]
  have:=Uj rec n t hw hs.1 hr.2 t.elem t.fields.length n 0 (by omega) hn
  rw [List.take_zero] at this
  exact this.trans (by rw [Ty.eta])
 | k+1,m+1,i,hi,hm=>by
  have a:i<t.elem.length:=by omega
  rw [HQ,An,decide_eq_true a]
  simp only [if_true,Au a,Option.bind_some,hr.1 _ (List.getElem_mem a)]
  rw [if_pos (by rw [List.length_take];omega),if_pos (Ar (by omega))]
  have e:t.elem.take i++[t.elem[i]]=t.elem.take (i+1):=by rw [List.take_succ_eq_append_getElem a]
  rw [e]
  exact Wy rec n t hw hs hn hr k m (i+1) (by omega) (by omega)
theorem Ru:∀ (n:Nat) (t:Ty),t.size+1400000<n→t.size≤1000000000→t.ok→Hv n t=some t
 | 0,t,h,_,_=>absurd h (Nat.not_lt_zero _)
 | n+1,t,h,hs,hok=>by
  have j:=t.lens
  obtain ⟨g,k,f,e⟩:=t.ok_eq.1 hok
  rw [Hv,OV,if_pos (by omega)]
  have:=Wy (Hv n) n t (by omega) ⟨by omega,by omega⟩ (by omega) ⟨fun x a=>Ru n x (by have:=t.elem_size x a;omega) (by have:=t.elem_size x a;omega) (f x a),fun p b=>by
   obtain ⟨_,d,i,c⟩:=e p b
   have:=t.field_size p b
   exact ZcX _ n p (by omega) (by omega) (fun v hv=>RP n v (by have:=(c v hv).1;omega) (by have:=(c v hv).1;omega)) (Ru n _ (by omega) (by omega) d)⟩ t.elem.length n 0 (by omega) (by omega)
  rw [List.take_zero] at this
  exact this
def LD (n:Nat)  (b:List Ty):Option ((List Ty)) :=
 some (b)
def PI (n:Nat)  : Option ((List Ty)) :=
 some ([])
def GO (n:Nat) (h:Ty):Nat→(List Ty)→Int→Option ((List Ty))
 | 0,_,_=>none
 | m+1,g,b =>
  if decide (b<(h.fields.length:Int)) then
   (Cb h.fields b).bind fun q =>
   if (g.length+1)*104≤140737488355328∧g.length+1≤4611686018427387904 then
    if BR (b+1) then
     (GO n h m) (g++([q.2.2.2.1])) (b+1)
    else none
   else none
  else
   LD n g
def Ih (n:Nat) (g:Ty) (b:Bool):Option ((List Ty)) :=
 if b then
  if 0≤(g.fields.length:Int)∧(g.fields.length:Int)*104≤140737488355328∧(g.fields.length:Int)≤4611686018427387904 then
   GO n g n ([]) 0
  else none
 else
  PI n 
def MP (n:Nat) (b:Ty):Option ((List Ty)) :=
 if decide (b.kind=8) then
  some (b.elem)
 else
  if decide (b.kind=9) then
   Ih n b true
  else
   Ih n b (decide (b.kind=10))
theorem Zak (w0:World) (n:Nat) (B:List (List AV)) (Rw:List RowA) (L:List LoopA) (a0:Ty) (r:(List Ty)) (h:MP n a0=some r) :
  ACalls Tryz.prog w0 51 [.agg (a0.cs)] ⟨B,Rw,L⟩ fun x st=>x = .list (r.map HK) .none∧st=⟨B,Rw,L⟩:=by
 rw [MP] at h
 refine hd [.tmp 2] Tryz.func51 Tryz.ntmps51 fun M0 W0 G t p b V k hs=>?_
 simp only [Am]
 refine rg [1] hs ?_
 refine Ak (fun e st=>Ck e st B Rw L [] [a0.cs] [] (PI n  = some r)) ?_ ?_
 ·intro K4 H
  refine rg [1,7] hs ?_
  apply Ad
  refine rg [1,7,8] hs ?_
  refine Av h hs (fun hs h=>?_) (fun hs h=>?_)
  ·refine rg [2] hs ?_
   exact rt h hs b k
  refine Ak (fun e st=>∃ (l:Bool),Ck e st B Rw L [(1,true,.box B.length 0),(12,true,.val (.bool l))] [a0.cs] [] (Ih n a0 l=some r)) ?_ ?_
  ·intro K11 w
   refine rg [1,7,12] hs ?_
   refine Av h hs (fun hs h=>?_) (fun hs h=>?_)
   ·refine sk [1,12] hs w ?_
    exact ⟨true,([]),Rw,ef hs,ef hs,k,h⟩
   refine rl [1,12] hs w ?_
   exact ⟨(decide (a0.kind=10)),([]),Rw,ef hs,ef hs,k,h⟩
  ·clear h;rintro e st ⟨l,Xk10,Rk10,rfl,rfl,k,h⟩
   rw [Ih] at h
   refine td G t p b k ?_
   refine Av h hs (fun hs h=>?_) (fun hs h=>?_)
   ·obtain ⟨Q,h⟩:=Ac h
    have k:=k.make 7 0
    refine rg [1,3] hs ?_
    refine Ak (fun e st=>∃ (i:List Ty) (j:Ev.Own),Ck e st B Rw L [(3,true,.list (i.map HK) j)] [a0.cs] [(7,i.length,j)] (LD n i=some r)) ?_ ?_
    ·intro K20 F
     refine rg [3,20,21,22] hs ?_
     apply Ad
     refine Ap (fun m e st=>∃ (a:List Ty) (d:Int) (c:Ev.Own),Ck e st B Rw L [(3,true,.list (a.map HK) c),(20,true,.list (a0.fields.map Cd) .none),(21,true,.val (.int .i64 (a0.fields.length:Int))),(22,true,.val (.int .i64 d))] [a0.cs] [(7,a.length,c)] (GO n a0 m a d=some r)) n ⟨([]),0,((.row Rk10.length)),([]),((Rk10++[.grow 0 7])),ef hs,ef hs,Owns.of_eq (k) EK,h⟩ ?_
     rintro ml22 e st ⟨a,d,c,Xl22,Rl22,rfl,rfl,k,h⟩ Ul22 Vl22
     cases ml22 with
     | zero=>cases h
     | succ ml22 =>
     rw [GO] at h
     have N:=k.unders
     simp only [List.mem_cons,List.not_mem_nil,or_false,forall_eq_or_imp,forall_eq] at N
     refine td G t p b k ?_
     refine rg [3,20,21,22,23] hs ?_
     apply Aa;intro K24 z
     refine Av h hs (fun hs h=>?_) (fun hs h=>?_)
     rotate_left
     ·refine sx [3] hs F ?_
      exact ⟨a,c,([]),Rl22,ef hs,ef hs,Owns.of_eq (k) EK,h⟩
     refine sk [3,20,21,22] hs z ?_
     clear z
     apply Aa;intro K26 u
     apply Ad
     obtain ⟨o,E,h⟩:=bind_some h
     obtain ⟨J,O,D⟩:=Ao E
     have C:=Aq (f:=Cd) D
     have hs:=And.intro C hs
     refine rg [3,5,20,21,22] hs ?_
     obtain ⟨v,h⟩:=Ac h
     obtain ⟨K,q,k,g⟩:=k.append (P:=Tryz.prog) Zc7 (by rw [X2];rfl) (by decide) 1 v.1 v.2
     replace g:=fun (ys:List AV) B L o2=>g (a.map HK) ys B L o2 EK
     replace g:=fun (y:AV) B L o2=>g [y] B L o2 EK ev
     try simp only [List.mem_singleton,List.mem_cons,List.not_mem_nil,or_false,forall_eq_or_imp,forall_eq,List.map_append,List.map_cons,List.map_nil,Fp,FA,FH,FB,FC,E1,D6,DY,Fj,CO,CH,D7,D3,D5] at g
     have hs:=And.intro g hs
     refine rl [3,20,21,22] hs u ?_
     clear u
     obtain ⟨U,h⟩:=Ac h
     refine rl [3,20,21,22] hs (fun e s=>Vl22 ml22 e s (Nat.lt_succ_self _)) ?_
     exact ⟨(a++([o.2.2.2.1])),(d+1),K,([.val (.int .i64 o.1)::(.val (.string o.2.1)::(.val (.int .i64 o.2.2.1)::((o.2.2.2.1.cs)++([.list (o.2.2.2.2.map A1) .none]))))]),q,ef hs,ef hs,Owns.of_eq (k) EK,h⟩
    ·clear h;rintro e st ⟨i,j,Xk19,Rk19,rfl,rfl,k,h⟩
     rw [LD] at h
     have N:=k.unders
     simp only [List.mem_cons,List.not_mem_nil,or_false,forall_eq_or_imp,forall_eq] at N
     refine td G t p b k ?_
     refine rg [2] hs ?_
     exact rt h hs b k
   refine sk [] hs H ?_
   exact ⟨([]),Rk10,ef hs,ef hs,k,h⟩
 ·clear h;rintro e st ⟨Xk3,Rk3,rfl,rfl,k,h⟩
  rw [PI] at h
  refine td G t p b k ?_
  refine rg [2] hs ?_
  exact rt h hs b k
def Xl (t:Ty):List Ty:=if t.kind=8 then t.elem else if t.kind=9∨t.kind=10 then t.fields.map fun p=>p.2.2.2.1 else []
theorem Zdn (n:Nat) (t:Ty) (hs:t.fields.length≤1000000000):∀ (k m i:Nat) (x:List Ty),i+k=t.fields.length→k<m→x.length=i→GO n t m x i=some (x++(t.fields.drop i).map fun p=>p.2.2.2.1)
 | k,0,i,_,_,h,_=>absurd h (Nat.not_lt_zero _)
 | 0,m+1,i,x,hi,_,_=>by
  rw [GO,An,decide_eq_false (by omega)]
  simp only [Bool.false_eq_true,if_false,LD]
  rw [List.drop_eq_nil_of_le (by omega),List.map_nil,List.append_nil]
 | k+1,m+1,i,x,hi,hm,hx=>by
  have a:i<t.fields.length:=by omega
  rw [GO,An,decide_eq_true a]
  simp only [if_true,Au a,Option.bind_some]
  rw [if_pos (by omega),if_pos (Ar (by omega))]
  have ih:=Zdn n t hs k m (i+1) (x++[t.fields[i].2.2.2.1]) (by omega) (by omega) (by simp [hx])
  rw [List.drop_eq_getElem_cons a,List.map_cons]
  rw [List.append_assoc] at ih
  exact ih
theorem Za4 (n:Nat) (t:Ty) (hn:t.fields.length<n) (hs:t.fields.length≤1000000000):MP n t=some (Xl t):=by
 have a:Ih n t true=some (t.fields.map fun p=>p.2.2.2.1):=by
  rw [Ih,if_pos rfl,if_pos (by omega)]
  have:=Zdn n t hs t.fields.length n 0 [] (by omega) hn rfl
  rw [List.drop_zero,List.nil_append] at this
  exact this
 rw [MP,Xl]
 by_cases h1:t.kind=8
 ·rw [if_pos (decide_eq_true h1),if_pos h1]
 rw [if_neg (by rw [decide_eq_true_eq];exact h1),if_neg h1]
 by_cases h2:t.kind=9
 ·rw [if_pos (decide_eq_true h2),a,if_pos (.inl h2)]
 rw [if_neg (by rw [decide_eq_true_eq];exact h2)]
 by_cases h3:t.kind=10
 ·rw [decide_eq_true h3,a,if_pos (.inr h3)]
 ·rw [decide_eq_false h3,if_neg (by omega)];rfl
theorem Zdx {a b:ByteArray} (h:a.data.toList=b.data.toList):a=b:=by
 cases a;cases b;simp at h;rw [h]
theorem ZaR:∀ a b:List UInt8,Lib.compareBytes a b=0→a=b
 | [],[],_=>rfl
 | [],_::_,h=>absurd (show (-1:Int)=0 from h) (by decide)
 | _::_,[],h=>absurd (show (1:Int)=0 from h) (by decide)
 | x::a,y::b,h=>by
  simp only [Lib.compareBytes] at h
  by_cases h1:x<y
  ·simp [h1] at h
  ·by_cases h2:y<x
   ·simp [h1,h2] at h
   ·simp only [h1,h2,if_false] at h
    rw [ZaR a b h]
    have:x=y:=by
     rw [UInt8.lt_iff_toNat_lt] at h1 h2
     exact UInt8.toNat_inj.1 (by omega)
    rw [this]
theorem I6 (a b:ByteArray):Eh a b=0↔a=b:=by
 unfold Eh
 constructor
 ·intro h;exact Zdx (ZaR _ _ h)
 ·rintro rfl;exact S8 _
theorem EE (x y:ByteArray):Dz x y=true↔x=y:=by
 unfold Dz
 rw [beq_iff_eq]
 exact ⟨Zdx,fun h=>by rw [h]⟩
theorem HD (x:ByteArray):Dz x x=true:=(EE x x).2 rfl
theorem SE {α:Type} (l m:List α) (i:Nat) (h1:i<l.length) (h2:i<m.length):l.drop i=m.drop i↔l[i]=m[i]∧l.drop (i+1)=m.drop (i+1):=by
 rw [List.drop_eq_getElem_cons h1,List.drop_eq_getElem_cons h2,List.cons.injEq]
theorem US {n:Nat} (h:n≤1048576):n≤maxLen:=by unfold maxLen;omega
theorem Vl.ext' {a b:Vl} (h1:a.kind=b.kind) (h2:a.int=b.int) (h3:a.scale=b.scale) (h4:a.text=b.text) (h5:a.list=b.list) (h6:a.fields=b.fields):a=b:=by
 rw [←a.eta,←b.eta,h1,h2,h3,h4,h5,h6]
theorem TF.ext' {p q:TF} (h1:p.1=q.1) (h2:p.2.1=q.2.1) (h3:p.2.2.1=q.2.2.1) (h4:p.2.2.2.1=q.2.2.2.1) (h5:p.2.2.2.2=q.2.2.2.2):p=q:=by
 obtain ⟨a,b,c,d,e⟩:=p
 obtain ⟨f,i,h,j,g⟩:=q
 simp only at h1 h2 h3 h4 h5
 rw [h1,h2,h3,h4,h5]
theorem Ty.ext' {a b:Ty} (h1:a.kind=b.kind) (h2:a.min=b.min) (h3:a.max=b.max) (h4:a.scale=b.scale) (h5:a.words=b.words) (h6:a.elem=b.elem) (h7:a.fields=b.fields):a=b:=by
 rw [←a.eta,←b.eta,h1,h2,h3,h4,h5,h6,h7]
end Go.Proofs.YtgpmlelfkjfbiaaGreatDoor
namespace Go.Ev
open Go
structure VStk (Rw rows:List RowA) (sz:Nat) (xs:List AV) (id ver:Nat):Prop where
 pre:Rw <+: rows
 calm:∀ r∈rows.drop Rw.length,∀ y∈r.cells,∀ a b c,Under a b c y
 own:Rw.length≤id
 len:∀ y∈xs,y.cells.length=sz
 at_:∃ rest,rows[id]? = some (.vec ver sz (xs.flatMap AV.cells++rest))
theorem VStk.under {Rw rows:List RowA} {sz:Nat} {xs:List AV} {id ver:Nat} (h:VStk Rw rows sz xs id ver):id<rows.length:=by
 obtain ⟨a,h⟩:=h.at_
 exact (List.getElem?_eq_some_iff.1 h).1
theorem VStk.start (Rw:List RowA) {sz:Nat} {y:AV} {cs:List AV} (hc:cs=y.cells) (hy:y.cells.length=sz) (hu:∀ c∈y.cells,∀ a b d,Under a b d c):VStk Rw (Rw++[.vec 0 sz cs]) sz [y] Rw.length 0:=by
 subst hc
 refine ⟨List.prefix_append _ _,fun r f x e a b c=>?_,Nat.le_refl _,fun x e=>by rw [List.mem_singleton.1 e];exact hy,⟨[],by simp⟩⟩
 rw [List.drop_left] at f
 rw [List.mem_singleton.1 f] at e
 exact hu x e a b c
theorem VStk.take {Rw rows:List RowA} {sz:Nat} {xs:List AV} {id ver:Nat} (h:VStk Rw rows sz xs id ver) (k:Nat):VStk Rw rows sz (xs.take k) id ver:=by
 obtain ⟨a,c⟩:=h.at_
 refine ⟨h.pre,h.calm,h.own,fun y b=>h.len y (List.mem_of_mem_take b),⟨(xs.drop k).flatMap AV.cells++a,?_⟩⟩
 rw [c,←List.append_assoc,←List.flatMap_append,List.take_append_drop]
theorem VStk.of_eq {Rw rows:List RowA} {sz:Nat} {xs ys:List AV} {id ver:Nat} (h:VStk Rw rows sz xs id ver) (he:xs=ys):VStk Rw rows sz ys id ver:=he▸h
theorem VStk.append {P:Program} {t el:TypeId} {sz by8:Nat} {ag:Bool} {Rw rows:List RowA} {xs:List AV} {y:AV} {id ver:Nat} (h:VStk Rw rows sz xs id ver) (he:JR P t=some (el,sz,ag,by8)) (hz:(CM P el).isSome=true) (hs:0<sz)
  (hb:(xs.length+1)*by8≤140737488355328) (hb2:xs.length+1≤4611686018427387904) (hy:y.cells.length=sz∧AY y=true) (hp:y.pub=y) (hu:∀ c∈y.cells,∀ a b d,Under a b d c) :
  ∃ rows',VStk Rw rows' sz (xs++[y]) id (ver+1)∧∀ (B:List (List AV)) (L:List LoopA) (o2:Own),Bh P ⟨B,rows,L⟩ t (.vec id ver 0 xs.length) (.list [y] o2)=(True,.vec id (ver+1) 0 (xs.length+1),⟨B,rows',L⟩):=by
 have p:=h.pre.length_le
 have i:=h.own
 obtain ⟨e,j⟩:=h.at_
 have l:=(List.getElem?_eq_some_iff.1 j).1
 have k:(xs.flatMap AV.cells).length=xs.length*sz:=OO h.len
 have m:Cc P el sz by8 xs.length [y]=True:=by
  simp only [Cc,hs,hz,List.length_singleton,hb,hb2,true_and,List.mem_singleton,forall_eq,hy,and_self]
 refine ⟨rows.set id (.vec (ver+1) sz (xs.flatMap AV.cells++y.cells)),⟨J2 h.pre i _,fun r g z f a b c=>?_,i,fun z hz=>?_,⟨[],by simp [l,List.flatMap_append]⟩⟩,fun B L o2=>?_⟩
 ·rw [List.drop_set,if_neg (by omega)] at g
  rcases List.mem_or_eq_of_mem_set g with g | rfl
  ·exact h.calm r g z f a b c
  ·rcases List.mem_append.1 f with q | q
   ·exact h.calm (.vec ver sz (xs.flatMap AV.cells++e)) (by
     rw [List.mem_iff_getElem?]
     exact ⟨id-Rw.length,by rw [List.getElem?_drop,Nat.add_sub_cancel' i];exact j⟩) z (List.mem_append_left _ q) a b c
   ·exact hu z q a b c
 ·rcases List.mem_append.1 hz with q | q
  ·exact h.len z q
  ·rw [List.mem_singleton.1 q];exact hy.1
 ·simp only [Bh,he,AM,B1,List.length_singleton,List.flatMap_cons,List.flatMap_nil,List.append_nil,hp,EN,j,if_true]
  rw [m]
  have n:(xs.flatMap AV.cells++e).take (xs.length*sz)=xs.flatMap AV.cells:=by rw [←k,List.take_left]
  have o:xs.length*sz≤(xs.flatMap AV.cells++e).length:=by rw [List.length_append];omega
  simp only [true_and,n,eq_true o,and_self]
end Go.Ev
namespace Go.Proofs.YtgpmlelfkjfbiaaGreatDoor
open Go Go.RowKit Go.Ev
def B8 (b:Int) (g:Int) (h:Int):Bool :=
 (decide (b<g))||(decide (h<b))
def B5 (b:Vl):Bool :=
 (((((!((((decide (1≤b.kind))&&(decide (b.kind≤3)))||(decide (b.kind=6)))||(decide (b.kind=7))))&&(!(decide (b.int=0))))||((!(decide (b.kind=3)))&&(!(decide (b.scale=0)))))||((!(((decide (b.kind=4))||(decide (b.kind=5)))||(decide (b.kind=10))))&&(!(Dz b.text ((⟨#[]⟩:ByteArray))))))||((!((decide (b.kind=8))||(decide (b.kind=10))))&&(decide (0<(b.list.length:Int)))))||((!(decide (b.kind=9)))&&(decide (0<(b.fields.length:Int))))
@[go_sem] theorem vl_a6 (v:Vl) (x d:AV):(v.cs++[x]).getD 6 d=x:=by cases v;rfl
@[go_sem] theorem ZgX (v:Vl) (a b c d e f g:AV):Dl [a,b,c,d,e,f,g] 0 v.cs=v.cs++[g]:=by
 cases v;rfl
@[go_sem] theorem ZhE (v:Vl) (g x:AV):Dl (v.cs++[g]) 6 [x]=v.cs++[x]:=by
 cases v;rfl
def BO (b:Vl):Bool :=
 (((((decide (b.kind=0))&&(decide (b.int=0)))&&(decide (b.scale=0)))&&(Dz b.text ((⟨#[]⟩:ByteArray))))&&(decide ((b.list.length:Int)=0)))&&(decide ((b.fields.length:Int)=0))
theorem YU (w0:World) (B:List (List AV)) (Rw:List RowA) (L:List LoopA) (a0:Vl) (r:Bool) (h:BO a0=r) :
  ACalls Tryz.prog w0 62 [.agg (a0.cs)] ⟨B,Rw,L⟩ fun x st=>x = .val (.bool r)∧st=⟨B,Rw,L⟩:=by
 rw [BO] at h
 refine hd [.tmp 2] Tryz.func62 Tryz.ntmps62 fun M0 W0 e d c a f b hs=>?_
 simp only [Am]
 refine rg [1] hs ?_
 refine rg [2] hs ?_
 exact rT h hs a b
theorem NF (w0:World) (B:List (List AV)) (Rw:List RowA) (L:List LoopA) (a0:Vl) :
  ACalls Tryz.prog w0 62 [.agg (a0.cs)] ⟨B,Rw,L⟩ fun x st=>x = .val (.bool (BO a0))∧st=⟨B,Rw,L⟩:=YU w0 B Rw L a0 _ rfl
def BS (b:Int) (g:Int) (h:Int):Int :=
 if (decide (b<g))||(decide (h<b)) then
  2
 else
  0
theorem Xi (w0:World) (B:List (List AV)) (Rw:List RowA) (L:List LoopA) (a0:Int) (a1:Int) (a2:Int) (r:Int) (h:BS a0 a1 a2=r) :
  ACalls Tryz.prog w0 109 [.val (.int .i64 a0),.val (.int .i64 a1),.val (.int .i64 a2)] ⟨B,Rw,L⟩ fun x st=>x = .val (.int .i64 r)∧st=⟨B,Rw,L⟩:=by
 rw [BS] at h
 refine hd [.tmp 6] Tryz.func109 Tryz.ntmps109 fun M0 W0 f e d a g c hs=>?_
 simp only [Am]
 refine rg [0,1,2] hs ?_
 apply Aa;intro K2 b
 refine rg [14] hs ?_
 refine Av h hs (fun hs h=>?_) (fun hs h=>?_)
 ·refine rg [6] hs ?_
  exact rT h hs a c
 refine sk [] hs b ?_
 clear b
 refine rg [6] hs ?_
 exact rT h hs a c
theorem Gu (w0:World) (B:List (List AV)) (Rw:List RowA) (L:List LoopA) (a0:Int) (a1:Int) (a2:Int) :
  ACalls Tryz.prog w0 109 [.val (.int .i64 a0),.val (.int .i64 a1),.val (.int .i64 a2)] ⟨B,Rw,L⟩ fun x st=>x = .val (.int .i64 (BS a0 a1 a2))∧st=⟨B,Rw,L⟩:=Xi w0 B Rw L a0 a1 a2 _ rfl
def FN (b:Vl):Int :=
 BS b.int 0 1
theorem WP (w0:World) (B:List (List AV)) (Rw:List RowA) (L:List LoopA) (a0:Vl) (r:Int) (h:FN a0=r) :
  ACalls Tryz.prog w0 108 [.agg (a0.cs)] ⟨B,Rw,L⟩ fun x st=>x = .val (.int .i64 r)∧st=⟨B,Rw,L⟩:=by
 rw [FN] at h
 refine hd [.tmp 2] Tryz.func108 Tryz.ntmps108 fun M0 W0 f e d a g c hs=>?_
 simp only [Am]
 refine rg [1] hs ?_
 refine rc 2 [2] hs ?_;intro K2 b
 refine Ab _ (Gu w0 _ _ _ a0.int 0 1) (hv hs) ?_
 refine ne hs b ?_
 clear b
 exact rT h hs a c
theorem Vq (w0:World) (B:List (List AV)) (Rw:List RowA) (L:List LoopA) (a0:Vl) :
  ACalls Tryz.prog w0 108 [.agg (a0.cs)] ⟨B,Rw,L⟩ fun x st=>x = .val (.int .i64 (FN a0))∧st=⟨B,Rw,L⟩:=WP w0 B Rw L a0 _ rfl
def C5 (g:Int) (b:Int) (h:Int):Int :=
 if decide (b<g) then
  h
 else
  0
theorem Za1 (w0:World) (B:List (List AV)) (Rw:List RowA) (L:List LoopA) (a0:Int) (a1:Int) (a2:Int) (r:Int) (h:C5 a0 a1 a2=r) :
  ACalls Tryz.prog w0 114 [.val (.int .i64 a0),.val (.int .i64 a1),.val (.int .i64 a2)] ⟨B,Rw,L⟩ fun x st=>x = .val (.int .i64 r)∧st=⟨B,Rw,L⟩:=by
 rw [C5] at h
 refine hd [.tmp 6] Tryz.func114 Tryz.ntmps114 fun M0 W0 f e d a g c hs=>?_
 simp only [Am]
 refine rg [0,1,2] hs ?_
 apply Aa;intro K2 b
 refine rg [2,9] hs ?_
 refine Av h hs (fun hs h=>?_) (fun hs h=>?_)
 ·refine rg [6] hs ?_
  exact rT h hs a c
 refine sk [] hs b ?_
 clear b
 refine rg [6] hs ?_
 exact rT h hs a c
theorem Kw (w0:World) (B:List (List AV)) (Rw:List RowA) (L:List LoopA) (a0:Int) (a1:Int) (a2:Int) :
  ACalls Tryz.prog w0 114 [.val (.int .i64 a0),.val (.int .i64 a1),.val (.int .i64 a2)] ⟨B,Rw,L⟩ fun x st=>x = .val (.int .i64 (C5 a0 a1 a2))∧st=⟨B,Rw,L⟩:=Za1 w0 B Rw L a0 a1 a2 _ rfl
def Iy (b:Vl):Option Int :=
 if b.text.size≤maxLen then
  if !(Fz b.text) then
   some (12)
  else
   if decide ((b.list.length:Int)=0) then
    some (4)
   else
    some (C5 (b.list.length:Int) 1 3)
 else none
theorem Vb (w0:World) (B:List (List AV)) (Rw:List RowA) (L:List LoopA) (a0:Vl) (r:Int) (h:Iy a0=some r) :
  ACalls Tryz.prog w0 121 [.agg (a0.cs)] ⟨B,Rw,L⟩ fun x st=>x = .val (.int .i64 r)∧st=⟨B,Rw,L⟩:=by
 rw [Iy] at h
 refine hd [.tmp 2] Tryz.func121 Tryz.ntmps121 fun M0 W0 j i g a k e hs=>?_
 simp only [Am]
 refine rg [1] hs ?_
 apply Aa;intro K2 d
 apply Ad
 obtain ⟨f,h⟩:=Ac h
 refine rc 2 [1,3] hs ?_;intro K3 c
 refine Ab _ (RO w0 _ _ _ a0.text f) (hv hs) ?_
 refine ne hs c ?_
 clear c
 refine Av h hs (fun hs h=>?_) (fun hs h=>?_)
 ·refine rg [2] hs ?_
  exact rt h hs a e
 refine rg [1,8] hs ?_
 refine Av h hs (fun hs h=>?_) (fun hs h=>?_)
 ·refine rg [2] hs ?_
  exact rt h hs a e
 refine sk [1] hs d ?_
 clear d
 refine rc 2 [2] hs ?_;intro K10 b
 refine Ab _ (Kw w0 _ _ _ (a0.list.length:Int) 1 3) (hv hs) ?_
 refine ne hs b ?_
 clear b
 exact rt h hs a e
def FO (b:Vl):Int :=
 BS b.int ((-999999999999999)) 999999999999999
theorem WQ (w0:World) (B:List (List AV)) (Rw:List RowA) (L:List LoopA) (a0:Vl) (r:Int) (h:FO a0=r) :
  ACalls Tryz.prog w0 110 [.agg (a0.cs)] ⟨B,Rw,L⟩ fun x st=>x = .val (.int .i64 r)∧st=⟨B,Rw,L⟩:=by
 rw [FO] at h
 refine hd [.tmp 2] Tryz.func110 Tryz.ntmps110 fun M0 W0 f e d a g c hs=>?_
 simp only [Am]
 refine rg [1] hs ?_
 refine rc 2 [2] hs ?_;intro K2 b
 refine Ab _ (Gu w0 _ _ _ a0.int ((-999999999999999)) 999999999999999) (hv hs) ?_
 refine ne hs b ?_
 clear b
 exact rT h hs a c
theorem Vh (w0:World) (B:List (List AV)) (Rw:List RowA) (L:List LoopA) (a0:Vl) :
  ACalls Tryz.prog w0 110 [.agg (a0.cs)] ⟨B,Rw,L⟩ fun x st=>x = .val (.int .i64 (FO a0))∧st=⟨B,Rw,L⟩:=WQ w0 B Rw L a0 _ rfl
def NG (n:Nat)  : Option Int :=
 some (0)
def H8 (n:Nat) (h:List Int):Nat→Int→Option Int
 | 0,_=>none
 | m+1,b =>
  if decide (b<(h.length:Int)) then
   (Cb h b).bind fun g =>
   if !(decide (g=0)) then
    some (g)
   else
    if BR (b+1) then
     (H8 n h m) (b+1)
    else none
  else
   NG n 
def MD (n:Nat) (b:List Int):Option Int :=
 H8 n b n 0
theorem Zi (w0:World) (n:Nat) (B:List (List AV)) (Rw:List RowA) (L:List LoopA) (a0:List Int) (r:Int) (h:MD n a0=some r) :
  ACalls Tryz.prog w0 112 [.list (a0.map Yr) .none] ⟨B,Rw,L⟩ fun x st=>x = .val (.int .i64 r)∧st=⟨B,Rw,L⟩:=by
 rw [MD] at h
 refine hd [.tmp 2] Tryz.func112 Tryz.ntmps112 fun M0 W0 v o j a y c hs=>?_
 simp only [Am]
 refine rg [0] hs ?_
 refine Ak (fun e st=>Ck e st B Rw L [] [] [] (NG n  = some r)) ?_ ?_
 ·intro K4 p
  refine rg [5,6,7] hs ?_
  apply Ad
  refine Ap (fun m e st=>∃ (b:Int),Ck e st B Rw L [(5,true,.list (a0.map Yr) .none),(6,true,.val (.int .i64 (a0.length:Int))),(7,true,.val (.int .i64 b))] [] [] (H8 n a0 m b=some r)) n ⟨0,([]),Rw,ef hs,ef hs,c,h⟩ ?_
  rintro ml6 e st ⟨b,Xl6,Rl6,rfl,rfl,c,h⟩ Ul6 Vl6
  cases ml6 with
  | zero=>cases h
  | succ ml6 =>
  rw [H8] at h
  refine td v o j a c ?_
  refine rg [5,6,7,8] hs ?_
  apply Aa;intro K8 l
  refine Av h hs (fun hs h=>?_) (fun hs h=>?_)
  rotate_left
  ·refine sx [] hs p ?_
   exact ⟨([]),Rl6,ef hs,ef hs,c,h⟩
  refine sk [5,6,7] hs l ?_
  clear l
  apply Aa;intro K10 d
  apply Ad
  obtain ⟨w,k,h⟩:=bind_some h
  obtain ⟨t,q,g⟩:=Ao k
  have i:=Aq (f:=Yr) g
  have hs:=And.intro i hs
  refine rg [4,5,6,7] hs ?_
  refine rg [4,5,6,7,12] hs ?_
  refine Av h hs (fun hs h=>?_) (fun hs h=>?_)
  ·refine rg [2] hs ?_
   exact rt h hs a c
  refine sk [5,6,7] hs d ?_
  clear d
  obtain ⟨u,h⟩:=Ac h
  refine rl [5,6,7] hs (fun e s=>Vl6 ml6 e s (Nat.lt_succ_self _)) ?_
  exact ⟨(b+1),([]),Rl6,ef hs,ef hs,c,h⟩
 ·clear h;rintro e st ⟨Xk3,Rk3,rfl,rfl,c,h⟩
  rw [NG] at h
  refine td v o j a c ?_
  refine rg [2] hs ?_
  exact rt h hs a c
def Jt (n:Nat) (b:Vl):Option Int :=
 (MD n ([BS b.int ((-999999999999999)) 999999999999999,BS b.scale 0 12])).bind fun g =>
 some (g)
theorem Xd (w0:World) (n:Nat) (B:List (List AV)) (Rw:List RowA) (L:List LoopA) (a0:Vl) (r:Int) (h:Jt n a0=some r) :
  ACalls Tryz.prog w0 111 [.agg (a0.cs)] ⟨B,Rw,L⟩ fun x st=>x = .val (.int .i64 r)∧st=⟨B,Rw,L⟩:=by
 rw [Jt] at h
 refine hd [.tmp 2] Tryz.func111 Tryz.ntmps111 fun M0 W0 g f e a j d hs=>?_
 simp only [Am]
 refine rg [1] hs ?_
 obtain ⟨i,c,h⟩:=bind_some h
 apply Aa;intro K2 b
 refine dk 9 4 1 [2] hs Gm ?_
 refine Ab _ (Gu w0 _ _ _ a0.int ((-999999999999999)) 999999999999999) (hv hs) ?_
 refine nc hs ?_
 refine Ab _ (Gu w0 _ _ _ a0.scale 0 12) (hv hs) ?_
 refine nc hs ?_
 refine Ab _ (Zi w0 n _ _ _ ([BS a0.int ((-999999999999999)) 999999999999999,BS a0.scale 0 12]) _ c) (hv hs) ?_
 refine dn hs b ?_
 clear b
 exact rt h hs a d
def Hw  (b:Int):Option Int :=
 some (b)
def JF (b:Vl):Option Int :=
 if decide ((C5 (b.text.size:Int) 1024 5)=0) then
  if b.text.size≤maxLen then
   if !(Lib.validD b.text.data.toList) then
    Hw  16
   else
    Hw  (C5 (b.text.size:Int) 1024 5)
  else none
 else
  Hw  (C5 (b.text.size:Int) 1024 5)
theorem W3 (w0:World) (hT:Lib.Utf8Tabs 0 1 w0) (B:List (List AV)) (Rw:List RowA) (L:List LoopA) (a0:Vl) (r:Int) (h:JF a0=some r) :
  ACalls Tryz.prog w0 113 [.agg (a0.cs)] ⟨B,Rw,L⟩ fun x st=>x = .val (.int .i64 r)∧st=⟨B,Rw,L⟩:=by
 rw [JF] at h
 refine hd [.tmp 2] Tryz.func113 Tryz.ntmps113 fun M0 W0 l k i b m f hs=>?_
 simp only [Am]
 refine rg [1] hs ?_
 refine rc 2 [1,3] hs ?_;intro K2 g
 refine Ab _ (Kw w0 _ _ _ (a0.text.size:Int) 1024 5) (hv hs) ?_
 refine ne hs g ?_
 clear g
 refine Ak (fun e st=>∃ (a:Int),Ck e st B Rw L [(3,true,.val (.int .i64 a))] [a0.cs] [] (Hw  a=some r)) ?_ ?_
 ·intro K5 d
  apply Aa;intro K6 c
  rcases Bool.eq_false_or_eq_true (decide ((C5 (a0.text.size:Int) 1024 5)=0)) with hf7 | hf7
  ·replace h:=AO h hf7
   obtain ⟨j,h⟩:=Ac h
   have hs:=And.intro hf7 hs
   refine rk 2 [3,15] hs ?_
   refine Ab _ (TG w0 _ _ _ hT a0.text j) (hv hs) ?_
   refine ne hs c ?_
   clear c
   refine Av h hs (fun hs h=>?_) (fun hs h=>?_)
   ·refine rl [3] hs d ?_
    exact ⟨16,([]),Rw,ef hs,ef hs,f,h⟩
   refine sk [3] hs d ?_
   exact ⟨(C5 (a0.text.size:Int) 1024 5),([]),Rw,ef hs,ef hs,f,h⟩
  ·replace h:=AN h hf7
   have hs:=And.intro hf7 hs
   refine rk 2 [3,15] hs ?_
   refine As ?_
   refine ne hs c ?_
   clear c
   refine AP false ev (ef hs) (fun hb10=>by cases hb10) (fun hb10=>?_)
   refine sk [3] hs d ?_
   exact ⟨(C5 (a0.text.size:Int) 1024 5),([]),Rw,ef hs,ef hs,f,h⟩
 ·clear h;rintro e st ⟨a,Xk4,Rk4,rfl,rfl,f,h⟩
  rw [Hw] at h
  refine td l k i b f ?_
  refine rg [2] hs ?_
  exact rt h hs b f
def FR (b:Vl):Int :=
 C5 (b.text.size:Int) 1024 5
theorem Xv (w0:World) (B:List (List AV)) (Rw:List RowA) (L:List LoopA) (a0:Vl) (r:Int) (h:FR a0=r) :
  ACalls Tryz.prog w0 116 [.agg (a0.cs)] ⟨B,Rw,L⟩ fun x st=>x = .val (.int .i64 r)∧st=⟨B,Rw,L⟩:=by
 rw [FR] at h
 refine hd [.tmp 2] Tryz.func116 Tryz.ntmps116 fun M0 W0 f e d a g c hs=>?_
 simp only [Am]
 refine rg [1] hs ?_
 refine rc 2 [2] hs ?_;intro K2 b
 refine Ab _ (Kw w0 _ _ _ (a0.text.size:Int) 1024 5) (hv hs) ?_
 refine ne hs b ?_
 clear b
 exact rT h hs a c
theorem Vv (w0:World) (B:List (List AV)) (Rw:List RowA) (L:List LoopA) (a0:Vl) :
  ACalls Tryz.prog w0 116 [.agg (a0.cs)] ⟨B,Rw,L⟩ fun x st=>x = .val (.int .i64 (FR a0))∧st=⟨B,Rw,L⟩:=Xv w0 B Rw L a0 _ rfl
def FK (b:Vl):Int :=
 BS b.int ((-719162)) 2932896
theorem W5 (w0:World) (B:List (List AV)) (Rw:List RowA) (L:List LoopA) (a0:Vl) (r:Int) (h:FK a0=r) :
  ACalls Tryz.prog w0 117 [.agg (a0.cs)] ⟨B,Rw,L⟩ fun x st=>x = .val (.int .i64 r)∧st=⟨B,Rw,L⟩:=by
 rw [FK] at h
 refine hd [.tmp 2] Tryz.func117 Tryz.ntmps117 fun M0 W0 f e d a g c hs=>?_
 simp only [Am]
 refine rg [1] hs ?_
 refine rc 2 [2] hs ?_;intro K2 b
 refine Ab _ (Gu w0 _ _ _ a0.int ((-719162)) 2932896) (hv hs) ?_
 refine ne hs b ?_
 clear b
 exact rT h hs a c
theorem Vt (w0:World) (B:List (List AV)) (Rw:List RowA) (L:List LoopA) (a0:Vl) :
  ACalls Tryz.prog w0 117 [.agg (a0.cs)] ⟨B,Rw,L⟩ fun x st=>x = .val (.int .i64 (FK a0))∧st=⟨B,Rw,L⟩:=W5 w0 B Rw L a0 _ rfl
def FQ (b:Vl):Int :=
 BS b.int ((-62135596800000)) 253402300799999
theorem Xc (w0:World) (B:List (List AV)) (Rw:List RowA) (L:List LoopA) (a0:Vl) (r:Int) (h:FQ a0=r) :
  ACalls Tryz.prog w0 118 [.agg (a0.cs)] ⟨B,Rw,L⟩ fun x st=>x = .val (.int .i64 r)∧st=⟨B,Rw,L⟩:=by
 rw [FQ] at h
 refine hd [.tmp 2] Tryz.func118 Tryz.ntmps118 fun M0 W0 f e d a g c hs=>?_
 simp only [Am]
 refine rg [1] hs ?_
 refine rc 2 [2] hs ?_;intro K2 b
 refine Ab _ (Gu w0 _ _ _ a0.int ((-62135596800000)) 253402300799999) (hv hs) ?_
 refine ne hs b ?_
 clear b
 exact rT h hs a c
theorem Vf (w0:World) (B:List (List AV)) (Rw:List RowA) (L:List LoopA) (a0:Vl) :
  ACalls Tryz.prog w0 118 [.agg (a0.cs)] ⟨B,Rw,L⟩ fun x st=>x = .val (.int .i64 (FQ a0))∧st=⟨B,Rw,L⟩:=Xc w0 B Rw L a0 _ rfl
def FM (b:Vl):Int :=
 C5 (b.list.length:Int) 256 9
theorem XD (w0:World) (B:List (List AV)) (Rw:List RowA) (L:List LoopA) (a0:Vl) (r:Int) (h:FM a0=r) :
  ACalls Tryz.prog w0 119 [.agg (a0.cs)] ⟨B,Rw,L⟩ fun x st=>x = .val (.int .i64 r)∧st=⟨B,Rw,L⟩:=by
 rw [FM] at h
 refine hd [.tmp 2] Tryz.func119 Tryz.ntmps119 fun M0 W0 f e d a g c hs=>?_
 simp only [Am]
 refine rg [1] hs ?_
 refine rc 2 [2] hs ?_;intro K2 b
 refine Ab _ (Kw w0 _ _ _ (a0.list.length:Int) 256 9) (hv hs) ?_
 refine ne hs b ?_
 clear b
 exact rT h hs a c
theorem Vy (w0:World) (B:List (List AV)) (Rw:List RowA) (L:List LoopA) (a0:Vl) :
  ACalls Tryz.prog w0 119 [.agg (a0.cs)] ⟨B,Rw,L⟩ fun x st=>x = .val (.int .i64 (FM a0))∧st=⟨B,Rw,L⟩:=XD w0 B Rw L a0 _ rfl
def JZ (n:Nat)  : Option Int :=
 some (0)
def Ei (n:Nat) (h:Vl):Nat→Int→Option Int
 | 0,_=>none
 | m+1,b =>
  if decide (b<(h.fields.length:Int)) then
   (Cb h.fields b).bind fun g =>
   if g.1.size≤maxLen then
    if !(Fz g.1) then
     some (12)
    else
     if decide (0<b) then
      if BR (b-1) then
       (Cb h.fields (b-1)).bind fun q =>
       if Dz g.1 q.1 then
        some (7)
       else
        if BR (b-1) then
         if Wj g.1 q.1 then
          some (24)
         else
          if BR (b+1) then
           (Ei n h m) (b+1)
          else none
        else none
      else none
     else
      if BR (b+1) then
       (Ei n h m) (b+1)
      else none
   else none
  else
   JZ n 
def JB (n:Nat) (b:Vl):Option Int :=
 if !(decide ((C5 (b.fields.length:Int) 64 9)=0)) then
  some (C5 (b.fields.length:Int) 64 9)
 else
  Ei n b n 0
theorem Xf (w0:World) (n:Nat) (B:List (List AV)) (Rw:List RowA) (L:List LoopA) (a0:Vl) (r:Int) (h:JB n a0=some r) :
  ACalls Tryz.prog w0 120 [.agg (a0.cs)] ⟨B,Rw,L⟩ fun x st=>x = .val (.int .i64 r)∧st=⟨B,Rw,L⟩:=by
 rw [JB] at h
 refine hd [.tmp 2] Tryz.func120 Tryz.ntmps120 fun M0 W0 K y q b Q g hs=>?_
 simp only [Am]
 refine rg [1] hs ?_
 apply Aa;intro K2 w
 refine rc 2 [1,3] hs ?_;intro K3 u
 refine Ab _ (Kw w0 _ _ _ (a0.fields.length:Int) 64 9) (hv hs) ?_
 refine ne hs u ?_
 clear u
 refine rg [1,3,11] hs ?_
 refine Av h hs (fun hs h=>?_) (fun hs h=>?_)
 ·refine rg [2] hs ?_
  exact rt h hs b g
 refine sk [1] hs w ?_
 clear w
 refine Ak (fun e st=>Ck e st B Rw L [] [a0.cs] [] (JZ n  = some r)) ?_ ?_
 ·intro K9 F
  refine rg [1,14,15,16] hs ?_
  apply Ad
  refine Ap (fun m e st=>∃ (a:Int),Ck e st B Rw L [(1,true,.box B.length 0),(14,true,.list (a0.fields.map BI) .none),(15,true,.val (.int .i64 (a0.fields.length:Int))),(16,true,.val (.int .i64 a))] [a0.cs] [] (Ei n a0 m a=some r)) n ⟨0,([]),Rw,ef hs,ef hs,g,h⟩ ?_
  rintro ml11 e st ⟨a,Xl11,Rl11,rfl,rfl,g,h⟩ Ul11 Vl11
  cases ml11 with
  | zero=>cases h
  | succ ml11 =>
  rw [Ei] at h
  refine td K y q b g ?_
  refine rg [1,14,15,16,17] hs ?_
  apply Aa;intro K13 j
  refine Av h hs (fun hs h=>?_) (fun hs h=>?_)
  rotate_left
  ·refine sx [] hs F ?_
   exact ⟨([]),Rl11,ef hs,ef hs,g,h⟩
  refine sk [1,14,15,16] hs j ?_
  clear j
  apply Aa;intro K15 d
  apply Ad
  obtain ⟨i,t,h⟩:=bind_some h
  obtain ⟨z,C,l⟩:=Ao t
  have o:=Aq (f:=BI) l
  have hs:=And.intro o hs
  refine rg [1,4,5,14,15,16] hs ?_
  apply Ad
  obtain ⟨v,h⟩:=Ac h
  refine rc 2 [1,4,5,14,15,16,21] hs ?_;intro K18 k
  refine Ab _ (RO w0 _ _ _ i.1 v) (hv hs) ?_
  refine ne hs k ?_
  clear k
  refine Av h hs (fun hs h=>?_) (fun hs h=>?_)
  ·refine rg [2] hs ?_
   exact rt h hs b g
  apply Aa;intro K22 c
  rcases Bool.eq_false_or_eq_true (decide (0<a)) with hf23 | hf23
  ·replace h:=AO h hf23
   obtain ⟨G,h⟩:=Ac h
   obtain ⟨O,D,E,p,h⟩:=ix BI h
   have hs:=And.intro hf23 hs
   have hs:=And.intro p hs
   refine dl 15 1 1 [1,4,5,14,15,16,26] hs Gm c ?_
   clear c
   refine Av h hs (fun hs h=>?_) (fun hs h=>?_)
   ·refine rg [2] hs ?_
    exact rt h hs b g
   obtain ⟨J,h⟩:=Ac h
   refine dg 15 1 1 [1,14,15,16,41] hs Gm ?_
   refine Av h hs (fun hs h=>?_) (fun hs h=>?_)
   ·refine rg [2] hs ?_
    exact rt h hs b g
   refine sk [1,14,15,16] hs d ?_
   clear d
   obtain ⟨H,h⟩:=Ac h
   refine rl [1,14,15,16] hs (fun e s=>Vl11 ml11 e s (Nat.lt_succ_self _)) ?_
   exact ⟨(a+1),([.val (.string i.1)::(i.2.cs)]),Rl11,ef hs,ef hs,g,h⟩
  ·replace h:=AN h hf23
   have hs:=And.intro hf23 hs
   refine dl 15 1 1 [1,4,5,14,15,16,26] hs Gm c ?_
   clear c
   refine AP false ev (ef hs) (fun hb33=>by cases hb33) (fun hb33=>?_)
   refine dg 15 1 1 [1,14,15,16,41] hs Gm ?_
   refine AP false ev (ef hs) (fun hb35=>by cases hb35) (fun hb35=>?_)
   refine sk [1,14,15,16] hs d ?_
   clear d
   obtain ⟨N,h⟩:=Ac h
   refine rl [1,14,15,16] hs (fun e s=>Vl11 ml11 e s (Nat.lt_succ_self _)) ?_
   exact ⟨(a+1),([.val (.string i.1)::(i.2.cs)]),Rl11,ef hs,ef hs,g,h⟩
 ·clear h;rintro e st ⟨Xk8,Rk8,rfl,rfl,g,h⟩
  rw [JZ] at h
  refine td K y q b g ?_
  refine rg [2] hs ?_
  exact rt h hs b g
def LZ (b:Vl):Bool :=
 (((((((((decide (b.kind=1))||(decide (b.kind=2)))||(decide (b.kind=6)))||(decide (b.kind=7)))||(decide (b.kind=3)))||(decide (b.int=0)))&&((decide (b.kind=3))||(decide (b.scale=0))))&&((((decide (b.kind=4))||(decide (b.kind=5)))||(decide (b.kind=10)))||(Dz b.text ((⟨#[]⟩:ByteArray)))))&&(((decide (b.kind=8))||(decide (b.kind=10)))||(decide ((b.list.length:Int)=0))))&&((decide (b.kind=9))||(decide ((b.fields.length:Int)=0)))
theorem Za9 (w0:World) (B:List (List AV)) (Rw:List RowA) (L:List LoopA) (a0:Vl) (r:Bool) (h:LZ a0=r) :
  ACalls Tryz.prog w0 63 [.agg (a0.cs)] ⟨B,Rw,L⟩ fun x st=>x = .val (.bool r)∧st=⟨B,Rw,L⟩:=by
 rw [LZ] at h
 refine hd [.tmp 2] Tryz.func63 Tryz.ntmps63 fun M0 W0 e d c a f b hs=>?_
 simp only [Am]
 refine rg [1] hs ?_
 refine rg [1,3] hs ?_
 refine rg [1,3,4] hs ?_
 refine rg [1,3,4,5] hs ?_
 refine rg [2] (al hs) ?_
 exact rT h hs a b
theorem Zaj (w0:World) (B:List (List AV)) (Rw:List RowA) (L:List LoopA) (a0:Vl) :
  ACalls Tryz.prog w0 63 [.agg (a0.cs)] ⟨B,Rw,L⟩ fun x st=>x = .val (.bool (LZ a0))∧st=⟨B,Rw,L⟩:=Za9 w0 B Rw L a0 _ rfl
def BV (n:Nat)  : List (Nat × Vl)→Int→Option Int
 | [],b3_r7 =>
  some (0)
 | p_r7::rest,b3_r7 =>
  if BR (b3_r7+1) then
   if decide (4096<(b3_r7+1)) then
    some (9)
   else
    if decide (8<(p_r7.1:Int)) then
     some (23)
    else
     if BO p_r7.2 then
      some (19)
     else
      if (decide (p_r7.2.kind<1))||(decide (10<p_r7.2.kind)) then
       some (11)
      else
       if !(LZ p_r7.2) then
        some (3)
       else
        if decide (p_r7.2.kind=0) then
         none
        else
         if decide (p_r7.2.kind=1) then
          if !(decide ((FN p_r7.2)=0)) then
           some (FN p_r7.2)
          else
           (BV n rest) (b3_r7+1)
         else
          if decide (p_r7.2.kind=2) then
           if !(decide ((FO p_r7.2)=0)) then
            some (FO p_r7.2)
           else
            (BV n rest) (b3_r7+1)
          else
           if decide (p_r7.2.kind=3) then
            (Jt n p_r7.2).bind fun g =>
            if !(decide (g=0)) then
             some (g)
            else
             (BV n rest) (b3_r7+1)
           else
            if decide (p_r7.2.kind=4) then
             (JF p_r7.2).bind fun h =>
             if !(decide (h=0)) then
              some (h)
             else
              (BV n rest) (b3_r7+1)
            else
             if decide (p_r7.2.kind=5) then
              if !(decide ((FR p_r7.2)=0)) then
               some (FR p_r7.2)
              else
               (BV n rest) (b3_r7+1)
             else
              if decide (p_r7.2.kind=6) then
               if !(decide ((FK p_r7.2)=0)) then
                some (FK p_r7.2)
               else
                (BV n rest) (b3_r7+1)
              else
               if decide (p_r7.2.kind=7) then
                if !(decide ((FQ p_r7.2)=0)) then
                 some (FQ p_r7.2)
                else
                 (BV n rest) (b3_r7+1)
               else
                if decide (p_r7.2.kind=8) then
                 if !(decide ((FM p_r7.2)=0)) then
                  some (FM p_r7.2)
                 else
                  (BV n rest) (b3_r7+1)
                else
                 if decide (p_r7.2.kind=9) then
                  (JB n p_r7.2).bind fun q =>
                  if !(decide (q=0)) then
                   some (q)
                  else
                   (BV n rest) (b3_r7+1)
                 else
                  if decide (p_r7.2.kind=10) then
                   (Iy p_r7.2).bind fun b =>
                   if !(decide (b=0)) then
                    some (b)
                   else
                    (BV n rest) (b3_r7+1)
                  else
                   none
  else none
def EO (n:Nat) (b:Vl):Option Int :=
 if b.depth<4611686018427387904∧b.wide=true then
  BV n (E8 1 b) 0
 else none
theorem KC (w0:World) (hT:Lib.Utf8Tabs 0 1 w0) (n:Nat) (B:List (List AV)) (Rw:List RowA) (L:List LoopA) (a0:Vl) (r:Int) (h:EO n a0=some r) :
  ACalls Tryz.prog w0 22 [.agg (a0.cs)] ⟨B,Rw,L⟩ fun x st=>x = .val (.int .i64 r)∧st=⟨B,Rw,L⟩:=by
 rw [EO] at h
 refine hd [.cell 2 32] Tryz.func22 Tryz.ntmps22 fun M0 W0 hN ay ao q hu d hs=>?_
 simp only [Am]
 refine rg [1,2] hs ?_
 apply Aa;intro K2 ag
 apply Ag 2 [1,2,3]
 rw [Ae];simp +decide only [go_sem,Nat.reduceAdd,TT]
 (repeat' apply And.intro)<;>first | refine Ab _ (Zde w0 _ _ _ ) (by first | rfl | (simp +decide only [go_sem,Nat.reduceAdd,TT];done) | (simp +decide only [go_sem,Nat.reduceAdd,Vl.cs,Ty.cs,TT];done)) ?_ | exact cl
 rw [Ae];simp +decide only [go_sem,Nat.reduceAdd,TT]
 (repeat' apply And.intro)<;>first | refine ag _ _ ?_ | exact cl
 clear ag
 refine rg [1,2,3,4] hs ?_
 apply Aa;intro K4 ae
 refine rc 2 [2,3,4,10] hs ?_;intro K5 ai
 refine Bo _ (Oo w0 _ _ _ a0) (hv hs) ?_;rintro _ _ ⟨rfl,rfl⟩
 refine ne hs ai ?_
 clear ai
 apply Ad
 obtain ⟨ap,h⟩:=Ac h
 refine Q2 (IR a0) (fun st=>st.boxes[(B.length+4)]? = some a0.cs) (fun i st=>∃ (c:Int) (Rr7:List RowA),st=⟨B++([a0.cs,[.val (.int .i64 0)],[.val .nilFunc,.clo 108 [],.clo 110 [],.clo 111 [],.clo 113 [],.clo 116 [],.clo 117 [],.clo 118 [],.clo 119 [],.clo 120 [],.clo 121 []],[.val (.int .i64 c)],a0.cs]),Rr7,L⟩∧Owns Rw Rr7 []∧BV n ((E8 1 a0).drop i) c=some r) (fun ex st=>ex = .ret∧∃ (z0:List AV) (z2:List AV) (z3:List AV) (z4:List AV) (rows:List RowA),st=⟨B++[z0,[.val (.int .i64 r)],z2,z3,z4],rows,L⟩∧Owns Rw rows []) ev ev (LO w0 a0 ap _) (fun x hx=>PN a0 x hx) (by decide) ?_ ⟨0,Rw,ef hs,d,h⟩ (fun _ _ h => .inl h.1) ?_ ?_ ?_
 ·rintro i st la ⟨c,Rr7,rfl,d,h⟩ _ _;simp +decide [St.push]
 ·rintro i s1 ⟨XB,XR,XL⟩ x M1 W1 l la a2 hX hI ar am hx g K hK
  obtain ⟨b,av,rfl,hi⟩:=P6 a0 i x hx
  (try simp only at hX)
  subst hX
  obtain ⟨c,Rr7,rfl,d,h⟩:=hI
  rw [UH av,BV] at h
  have a:=d
  simp only [St.ext,St.push,List.append_assoc,List.append_nil]
  refine rg [2,3,4,5,12] hs ?_
  apply Ag 1 [2,3,4,5,6]
  rw [Ae];simp +decide only [go_sem,Nat.reduceAdd]
  (repeat' apply And.intro)<;>first | refine hK _ _ (by simp [St.ext,St.push]) (fun KQ f=>?_) | exact cl
  clear hK
  dsimp only [St.ext,St.push]
  apply Ad
  obtain ⟨az,h⟩:=Ac h
  refine rg [2,3,4,5,6] hs ?_
  apply Aa;intro K11 G
  apply Ad
  refine rg [2,3,5,6,15] hs ?_
  refine Av h hs (fun hs h=>?_) (fun hs h=>?_)
  ·have j:=hs.1
   refine rg [2] hs ?_
   apply AW;simp +decide only [go_sem,Nat.reduceAdd,j]
   have hgt:=Option.some.inj h;subst hgt
   refine f _ _ _ ⟨⟨B++[a0.cs,[.val (.int .i64 9)],[.val .nilFunc,.clo 108 [],.clo 110 [],.clo 111 [],.clo 113 [],.clo 116 [],.clo 117 [],.clo 118 [],.clo 119 [],.clo 120 [],.clo 121 []],[.val (.int .i64 (c+1))],a0.cs],Rr7,L⟩,[b.2.cs],by first | rfl | (simp only [List.append_assoc,List.append_nil,List.cons_append,List.nil_append];done),⟨by simp,by first | exact Nat.le_refl _ | (have:=d.len;simp;omega),rfl⟩,rfl,⟨rfl,_,_,_,_,Rr7,ef hs,d.sub (List.nil_sublist _)⟩,?_⟩
   exact .inr (A2 g a d rfl (ln d a) SX ow)
  have j:=hs.1
  refine rg [2,3,6,18] hs ?_
  refine Av h hs (fun hs h=>?_) (fun hs h=>?_)
  ·have k:=hs.1
   refine rg [2] hs ?_
   apply AW;simp +decide only [go_sem,Nat.reduceAdd,j,k]
   have hgt:=Option.some.inj h;subst hgt
   refine f _ _ _ ⟨⟨B++[a0.cs,[.val (.int .i64 23)],[.val .nilFunc,.clo 108 [],.clo 110 [],.clo 111 [],.clo 113 [],.clo 116 [],.clo 117 [],.clo 118 [],.clo 119 [],.clo 120 [],.clo 121 []],[.val (.int .i64 (c+1))],a0.cs],Rr7,L⟩,[b.2.cs],by first | rfl | (simp only [List.append_assoc,List.append_nil,List.cons_append,List.nil_append];done),⟨by simp,by first | exact Nat.le_refl _ | (have:=d.len;simp;omega),rfl⟩,rfl,⟨rfl,_,_,_,_,Rr7,ef hs,d.sub (List.nil_sublist _)⟩,?_⟩
   exact .inr (A2 g a d rfl (ln d a) SX ow)
  have k:=hs.1
  refine rc 2 [2,3,6,21] hs ?_;intro K18 V
  refine Ab _ (NF w0 _ _ _ b.2) (hv hs) ?_
  refine ne hs V ?_
  clear V
  refine Av h hs (fun hs h=>?_) (fun hs h=>?_)
  ·have m:=hs.1
   refine rg [2] hs ?_
   apply AW;simp +decide only [go_sem,Nat.reduceAdd,j,k,m]
   have hgt:=Option.some.inj h;subst hgt
   refine f _ _ _ ⟨⟨B++[a0.cs,[.val (.int .i64 19)],[.val .nilFunc,.clo 108 [],.clo 110 [],.clo 111 [],.clo 113 [],.clo 116 [],.clo 117 [],.clo 118 [],.clo 119 [],.clo 120 [],.clo 121 []],[.val (.int .i64 (c+1))],a0.cs],Rr7,L⟩,[b.2.cs],by first | rfl | (simp only [List.append_assoc,List.append_nil,List.cons_append,List.nil_append];done),⟨by simp,by first | exact Nat.le_refl _ | (have:=d.len;simp;omega),rfl⟩,rfl,⟨rfl,_,_,_,_,Rr7,ef hs,d.sub (List.nil_sublist _)⟩,?_⟩
   exact .inr (A2 g a d rfl (ln d a) SX ow)
  have m:=hs.1
  refine rg [2,3,6,24] hs ?_
  refine Av h hs (fun hs h=>?_) (fun hs h=>?_)
  ·have o:=hs.1
   refine rg [2] hs ?_
   apply AW;simp +decide only [go_sem,Nat.reduceAdd,j,k,m,o]
   have hgt:=Option.some.inj h;subst hgt
   refine f _ _ _ ⟨⟨B++[a0.cs,[.val (.int .i64 11)],[.val .nilFunc,.clo 108 [],.clo 110 [],.clo 111 [],.clo 113 [],.clo 116 [],.clo 117 [],.clo 118 [],.clo 119 [],.clo 120 [],.clo 121 []],[.val (.int .i64 (c+1))],a0.cs],Rr7,L⟩,[b.2.cs],by first | rfl | (simp only [List.append_assoc,List.append_nil,List.cons_append,List.nil_append];done),⟨by simp,by first | exact Nat.le_refl _ | (have:=d.len;simp;omega),rfl⟩,rfl,⟨rfl,_,_,_,_,Rr7,ef hs,d.sub (List.nil_sublist _)⟩,?_⟩
   exact .inr (A2 g a d rfl (ln d a) SX ow)
  have o:=hs.1
  refine rc 2 [2,3,6,33] hs ?_;intro K24 H
  refine Ab _ (Zaj w0 _ _ _ b.2) (hv hs) ?_
  refine ne hs H ?_
  clear H
  refine Av h hs (fun hs h=>?_) (fun hs h=>?_)
  ·have p:=hs.1
   refine rg [2] hs ?_
   apply AW;simp +decide only [go_sem,Nat.reduceAdd,j,k,m,o,p]
   have hgt:=Option.some.inj h;subst hgt
   refine f _ _ _ ⟨⟨B++[a0.cs,[.val (.int .i64 3)],[.val .nilFunc,.clo 108 [],.clo 110 [],.clo 111 [],.clo 113 [],.clo 116 [],.clo 117 [],.clo 118 [],.clo 119 [],.clo 120 [],.clo 121 []],[.val (.int .i64 (c+1))],a0.cs],Rr7,L⟩,[b.2.cs],by first | rfl | (simp only [List.append_assoc,List.append_nil,List.cons_append,List.nil_append];done),⟨by simp,by first | exact Nat.le_refl _ | (have:=d.len;simp;omega),rfl⟩,rfl,⟨rfl,_,_,_,_,Rr7,ef hs,d.sub (List.nil_sublist _)⟩,?_⟩
   exact .inr (A2 g a d rfl (ln d a) SX ow)
  have p:=hs.1
  refine sk [2,3,6] hs G ?_
  clear G
  apply Aa;intro K27 e
  rcases Bool.eq_false_or_eq_true (decide (b.2.kind=0)) with hf28 | hf28
  ·replace h:=AO h hf28
   have a1:b.2.kind=0:=of_decide_eq_true hf28
   cases h
  ·replace h:=AN h hf28
   rcases Bool.eq_false_or_eq_true (decide (b.2.kind=1)) with hf30 | hf30
   ·replace h:=AO h hf30
    have C:b.2.kind=1:=of_decide_eq_true hf30
    have hs:=And.intro hf28 hs
    have hs:=And.intro hf30 hs
    have hs:=And.intro C hs
    refine dk 7 2 1 [2,7] hs Gm ?_
    refine Ab _ (Vq w0 _ _ _ b.2) (hv hs) ?_
    refine dn hs e ?_
    clear e
    refine rg [2,7,44] hs ?_
    refine Av h hs (fun hs h=>?_) (fun hs h=>?_)
    ·have U:=hs.1
     refine rg [2] hs ?_
     apply AW;simp +decide only [go_sem,Nat.reduceAdd,j,k,m,o,p,hf28,hf30,C,U]
     have hgt:=Option.some.inj h;subst hgt
     refine f _ _ _ ⟨⟨B++[a0.cs,[.val (.int .i64 (FN b.2))],[.val .nilFunc,.clo 108 [],.clo 110 [],.clo 111 [],.clo 113 [],.clo 116 [],.clo 117 [],.clo 118 [],.clo 119 [],.clo 120 [],.clo 121 []],[.val (.int .i64 (c+1))],a0.cs],Rr7,L⟩,[b.2.cs],by first | rfl | (simp only [List.append_assoc,List.append_nil,List.cons_append,List.nil_append];done),⟨by simp,by first | exact Nat.le_refl _ | (have:=d.len;simp;omega),rfl⟩,rfl,⟨rfl,_,_,_,_,Rr7,ef hs,d.sub (List.nil_sublist _)⟩,?_⟩
     exact .inr (A2 g a d rfl (ln d a) SX ow)
    have U:=hs.1
    refine DO (Do [] _) ?_ (Ba _ _)
    apply Bd;simp +decide only [go_sem,Nat.reduceAdd]
    (repeat' apply And.intro)<;>first | refine f _ _ _ ⟨⟨B++[a0.cs,[.val (.int .i64 0)],[.val .nilFunc,.clo 108 [],.clo 110 [],.clo 111 [],.clo 113 [],.clo 116 [],.clo 117 [],.clo 118 [],.clo 119 [],.clo 120 [],.clo 121 []],[.val (.int .i64 (c+1))],a0.cs],Rr7,L⟩,[b.2.cs],by first | rfl | (simp only [List.append_assoc,List.append_nil,List.cons_append,List.nil_append];done),⟨by simp,by first | exact Nat.le_refl _ | (have:=d.len;simp;omega),rfl⟩,rfl,⟨(c+1),Rr7,ef hs,d,h⟩,?_⟩ | exact cl
    exact .inr (A2 g a d rfl (ln d a) SX ow)
   ·replace h:=AN h hf30
    rcases Bool.eq_false_or_eq_true (decide (b.2.kind=2)) with hf35 | hf35
    ·replace h:=AO h hf35
     have aa:b.2.kind=2:=of_decide_eq_true hf35
     have hs:=And.intro hf28 hs
     have hs:=And.intro hf30 hs
     have hs:=And.intro hf35 hs
     have hs:=And.intro aa hs
     refine dk 7 2 1 [2,7] hs Gm ?_
     refine Ab _ (Vh w0 _ _ _ b.2) (hv hs) ?_
     refine dn hs e ?_
     clear e
     refine rg [2,7,44] hs ?_
     refine Av h hs (fun hs h=>?_) (fun hs h=>?_)
     ·have D:=hs.1
      refine rg [2] hs ?_
      apply AW;simp +decide only [go_sem,Nat.reduceAdd,j,k,m,o,p,hf28,hf30,hf35,aa,D]
      have hgt:=Option.some.inj h;subst hgt
      refine f _ _ _ ⟨⟨B++[a0.cs,[.val (.int .i64 (FO b.2))],[.val .nilFunc,.clo 108 [],.clo 110 [],.clo 111 [],.clo 113 [],.clo 116 [],.clo 117 [],.clo 118 [],.clo 119 [],.clo 120 [],.clo 121 []],[.val (.int .i64 (c+1))],a0.cs],Rr7,L⟩,[b.2.cs],by first | rfl | (simp only [List.append_assoc,List.append_nil,List.cons_append,List.nil_append];done),⟨by simp,by first | exact Nat.le_refl _ | (have:=d.len;simp;omega),rfl⟩,rfl,⟨rfl,_,_,_,_,Rr7,ef hs,d.sub (List.nil_sublist _)⟩,?_⟩
      exact .inr (A2 g a d rfl (ln d a) SX ow)
     have D:=hs.1
     refine DO (Do [] _) ?_ (Ba _ _)
     apply Bd;simp +decide only [go_sem,Nat.reduceAdd]
     (repeat' apply And.intro)<;>first | refine f _ _ _ ⟨⟨B++[a0.cs,[.val (.int .i64 0)],[.val .nilFunc,.clo 108 [],.clo 110 [],.clo 111 [],.clo 113 [],.clo 116 [],.clo 117 [],.clo 118 [],.clo 119 [],.clo 120 [],.clo 121 []],[.val (.int .i64 (c+1))],a0.cs],Rr7,L⟩,[b.2.cs],by first | rfl | (simp only [List.append_assoc,List.append_nil,List.cons_append,List.nil_append];done),⟨by simp,by first | exact Nat.le_refl _ | (have:=d.len;simp;omega),rfl⟩,rfl,⟨(c+1),Rr7,ef hs,d,h⟩,?_⟩ | exact cl
     exact .inr (A2 g a d rfl (ln d a) SX ow)
    ·replace h:=AN h hf35
     rcases Bool.eq_false_or_eq_true (decide (b.2.kind=3)) with hf40 | hf40
     ·replace h:=AO h hf40
      have t:b.2.kind=3:=of_decide_eq_true hf40
      obtain ⟨aq,ak,h⟩:=bind_some h
      have hs:=And.intro hf28 hs
      have hs:=And.intro hf30 hs
      have hs:=And.intro hf35 hs
      have hs:=And.intro hf40 hs
      have hs:=And.intro t hs
      refine dk 7 2 1 [2,7] hs Gm ?_
      refine Ab _ (Xd w0 n _ _ _ b.2 _ ak) (hv hs) ?_
      refine dn hs e ?_
      clear e
      refine rg [2,7,44] hs ?_
      refine Av h hs (fun hs h=>?_) (fun hs h=>?_)
      ·have z:=hs.1
       refine rg [2] hs ?_
       apply AW;simp +decide only [go_sem,Nat.reduceAdd,j,k,m,o,p,hf28,hf30,hf35,hf40,t,z]
       have hgt:=Option.some.inj h;subst hgt
       refine f _ _ _ ⟨⟨B++[a0.cs,[.val (.int .i64 aq)],[.val .nilFunc,.clo 108 [],.clo 110 [],.clo 111 [],.clo 113 [],.clo 116 [],.clo 117 [],.clo 118 [],.clo 119 [],.clo 120 [],.clo 121 []],[.val (.int .i64 (c+1))],a0.cs],Rr7,L⟩,[b.2.cs],by first | rfl | (simp only [List.append_assoc,List.append_nil,List.cons_append,List.nil_append];done),⟨by simp,by first | exact Nat.le_refl _ | (have:=d.len;simp;omega),rfl⟩,rfl,⟨rfl,_,_,_,_,Rr7,ef hs,d.sub (List.nil_sublist _)⟩,?_⟩
       exact .inr (A2 g a d rfl (ln d a) SX ow)
      have z:=hs.1
      refine DO (Do [] _) ?_ (Ba _ _)
      apply Bd;simp +decide only [go_sem,Nat.reduceAdd]
      (repeat' apply And.intro)<;>first | refine f _ _ _ ⟨⟨B++[a0.cs,[.val (.int .i64 0)],[.val .nilFunc,.clo 108 [],.clo 110 [],.clo 111 [],.clo 113 [],.clo 116 [],.clo 117 [],.clo 118 [],.clo 119 [],.clo 120 [],.clo 121 []],[.val (.int .i64 (c+1))],a0.cs],Rr7,L⟩,[b.2.cs],by first | rfl | (simp only [List.append_assoc,List.append_nil,List.cons_append,List.nil_append];done),⟨by simp,by first | exact Nat.le_refl _ | (have:=d.len;simp;omega),rfl⟩,rfl,⟨(c+1),Rr7,ef hs,d,h⟩,?_⟩ | exact cl
      exact .inr (A2 g a d rfl (ln d a) SX ow)
     ·replace h:=AN h hf40
      rcases Bool.eq_false_or_eq_true (decide (b.2.kind=4)) with hf46 | hf46
      ·replace h:=AO h hf46
       have Z:b.2.kind=4:=of_decide_eq_true hf46
       obtain ⟨au,af,h⟩:=bind_some h
       have hs:=And.intro hf28 hs
       have hs:=And.intro hf30 hs
       have hs:=And.intro hf35 hs
       have hs:=And.intro hf40 hs
       have hs:=And.intro hf46 hs
       have hs:=And.intro Z hs
       refine dk 7 2 1 [2,7] hs Gm ?_
       refine Ab _ (W3 w0 hT _ _ _ b.2 _ af) (hv hs) ?_
       refine dn hs e ?_
       clear e
       refine rg [2,7,44] hs ?_
       refine Av h hs (fun hs h=>?_) (fun hs h=>?_)
       ·have E:=hs.1
        refine rg [2] hs ?_
        apply AW;simp +decide only [go_sem,Nat.reduceAdd,j,k,m,o,p,hf28,hf30,hf35,hf40,hf46,Z,E]
        have hgt:=Option.some.inj h;subst hgt
        refine f _ _ _ ⟨⟨B++[a0.cs,[.val (.int .i64 au)],[.val .nilFunc,.clo 108 [],.clo 110 [],.clo 111 [],.clo 113 [],.clo 116 [],.clo 117 [],.clo 118 [],.clo 119 [],.clo 120 [],.clo 121 []],[.val (.int .i64 (c+1))],a0.cs],Rr7,L⟩,[b.2.cs],by first | rfl | (simp only [List.append_assoc,List.append_nil,List.cons_append,List.nil_append];done),⟨by simp,by first | exact Nat.le_refl _ | (have:=d.len;simp;omega),rfl⟩,rfl,⟨rfl,_,_,_,_,Rr7,ef hs,d.sub (List.nil_sublist _)⟩,?_⟩
        exact .inr (A2 g a d rfl (ln d a) SX ow)
       have E:=hs.1
       refine DO (Do [] _) ?_ (Ba _ _)
       apply Bd;simp +decide only [go_sem,Nat.reduceAdd]
       (repeat' apply And.intro)<;>first | refine f _ _ _ ⟨⟨B++[a0.cs,[.val (.int .i64 0)],[.val .nilFunc,.clo 108 [],.clo 110 [],.clo 111 [],.clo 113 [],.clo 116 [],.clo 117 [],.clo 118 [],.clo 119 [],.clo 120 [],.clo 121 []],[.val (.int .i64 (c+1))],a0.cs],Rr7,L⟩,[b.2.cs],by first | rfl | (simp only [List.append_assoc,List.append_nil,List.cons_append,List.nil_append];done),⟨by simp,by first | exact Nat.le_refl _ | (have:=d.len;simp;omega),rfl⟩,rfl,⟨(c+1),Rr7,ef hs,d,h⟩,?_⟩ | exact cl
       exact .inr (A2 g a d rfl (ln d a) SX ow)
      ·replace h:=AN h hf46
       rcases Bool.eq_false_or_eq_true (decide (b.2.kind=5)) with hf52 | hf52
       ·replace h:=AO h hf52
        have y:b.2.kind=5:=of_decide_eq_true hf52
        have hs:=And.intro hf28 hs
        have hs:=And.intro hf30 hs
        have hs:=And.intro hf35 hs
        have hs:=And.intro hf40 hs
        have hs:=And.intro hf46 hs
        have hs:=And.intro hf52 hs
        have hs:=And.intro y hs
        refine dk 7 2 1 [2,7] hs Gm ?_
        refine Ab _ (Vv w0 _ _ _ b.2) (hv hs) ?_
        refine dn hs e ?_
        clear e
        refine rg [2,7,44] hs ?_
        refine Av h hs (fun hs h=>?_) (fun hs h=>?_)
        ·have v:=hs.1
         refine rg [2] hs ?_
         apply AW;simp +decide only [go_sem,Nat.reduceAdd,j,k,m,o,p,hf28,hf30,hf35,hf40,hf46,hf52,y,v]
         have hgt:=Option.some.inj h;subst hgt
         refine f _ _ _ ⟨⟨B++[a0.cs,[.val (.int .i64 (FR b.2))],[.val .nilFunc,.clo 108 [],.clo 110 [],.clo 111 [],.clo 113 [],.clo 116 [],.clo 117 [],.clo 118 [],.clo 119 [],.clo 120 [],.clo 121 []],[.val (.int .i64 (c+1))],a0.cs],Rr7,L⟩,[b.2.cs],by first | rfl | (simp only [List.append_assoc,List.append_nil,List.cons_append,List.nil_append];done),⟨by simp,by first | exact Nat.le_refl _ | (have:=d.len;simp;omega),rfl⟩,rfl,⟨rfl,_,_,_,_,Rr7,ef hs,d.sub (List.nil_sublist _)⟩,?_⟩
         exact .inr (A2 g a d rfl (ln d a) SX ow)
        have v:=hs.1
        refine DO (Do [] _) ?_ (Ba _ _)
        apply Bd;simp +decide only [go_sem,Nat.reduceAdd]
        (repeat' apply And.intro)<;>first | refine f _ _ _ ⟨⟨B++[a0.cs,[.val (.int .i64 0)],[.val .nilFunc,.clo 108 [],.clo 110 [],.clo 111 [],.clo 113 [],.clo 116 [],.clo 117 [],.clo 118 [],.clo 119 [],.clo 120 [],.clo 121 []],[.val (.int .i64 (c+1))],a0.cs],Rr7,L⟩,[b.2.cs],by first | rfl | (simp only [List.append_assoc,List.append_nil,List.cons_append,List.nil_append];done),⟨by simp,by first | exact Nat.le_refl _ | (have:=d.len;simp;omega),rfl⟩,rfl,⟨(c+1),Rr7,ef hs,d,h⟩,?_⟩ | exact cl
        exact .inr (A2 g a d rfl (ln d a) SX ow)
       ·replace h:=AN h hf52
        rcases Bool.eq_false_or_eq_true (decide (b.2.kind=6)) with hf57 | hf57
        ·replace h:=AO h hf57
         have ad:b.2.kind=6:=of_decide_eq_true hf57
         have hs:=And.intro hf28 hs
         have hs:=And.intro hf30 hs
         have hs:=And.intro hf35 hs
         have hs:=And.intro hf40 hs
         have hs:=And.intro hf46 hs
         have hs:=And.intro hf52 hs
         have hs:=And.intro hf57 hs
         have hs:=And.intro ad hs
         refine dk 7 2 1 [2,7] hs Gm ?_
         refine Ab _ (Vt w0 _ _ _ b.2) (hv hs) ?_
         refine dn hs e ?_
         clear e
         refine rg [2,7,44] hs ?_
         refine Av h hs (fun hs h=>?_) (fun hs h=>?_)
         ·have ab:=hs.1
          refine rg [2] hs ?_
          apply AW;simp +decide only [go_sem,Nat.reduceAdd,j,k,m,o,p,hf28,hf30,hf35,hf40,hf46,hf52,hf57,ad,ab]
          have hgt:=Option.some.inj h;subst hgt
          refine f _ _ _ ⟨⟨B++[a0.cs,[.val (.int .i64 (FK b.2))],[.val .nilFunc,.clo 108 [],.clo 110 [],.clo 111 [],.clo 113 [],.clo 116 [],.clo 117 [],.clo 118 [],.clo 119 [],.clo 120 [],.clo 121 []],[.val (.int .i64 (c+1))],a0.cs],Rr7,L⟩,[b.2.cs],by first | rfl | (simp only [List.append_assoc,List.append_nil,List.cons_append,List.nil_append];done),⟨by simp,by first | exact Nat.le_refl _ | (have:=d.len;simp;omega),rfl⟩,rfl,⟨rfl,_,_,_,_,Rr7,ef hs,d.sub (List.nil_sublist _)⟩,?_⟩
          exact .inr (A2 g a d rfl (ln d a) SX ow)
         have ab:=hs.1
         refine DO (Do [] _) ?_ (Ba _ _)
         apply Bd;simp +decide only [go_sem,Nat.reduceAdd]
         (repeat' apply And.intro)<;>first | refine f _ _ _ ⟨⟨B++[a0.cs,[.val (.int .i64 0)],[.val .nilFunc,.clo 108 [],.clo 110 [],.clo 111 [],.clo 113 [],.clo 116 [],.clo 117 [],.clo 118 [],.clo 119 [],.clo 120 [],.clo 121 []],[.val (.int .i64 (c+1))],a0.cs],Rr7,L⟩,[b.2.cs],by first | rfl | (simp only [List.append_assoc,List.append_nil,List.cons_append,List.nil_append];done),⟨by simp,by first | exact Nat.le_refl _ | (have:=d.len;simp;omega),rfl⟩,rfl,⟨(c+1),Rr7,ef hs,d,h⟩,?_⟩ | exact cl
         exact .inr (A2 g a d rfl (ln d a) SX ow)
        ·replace h:=AN h hf57
         rcases Bool.eq_false_or_eq_true (decide (b.2.kind=7)) with hf62 | hf62
         ·replace h:=AO h hf62
          have O:b.2.kind=7:=of_decide_eq_true hf62
          have hs:=And.intro hf28 hs
          have hs:=And.intro hf30 hs
          have hs:=And.intro hf35 hs
          have hs:=And.intro hf40 hs
          have hs:=And.intro hf46 hs
          have hs:=And.intro hf52 hs
          have hs:=And.intro hf57 hs
          have hs:=And.intro hf62 hs
          have hs:=And.intro O hs
          refine dk 7 2 1 [2,7] hs Gm ?_
          refine Ab _ (Vf w0 _ _ _ b.2) (hv hs) ?_
          refine dn hs e ?_
          clear e
          refine rg [2,7,44] hs ?_
          refine Av h hs (fun hs h=>?_) (fun hs h=>?_)
          ·have N:=hs.1
           refine rg [2] hs ?_
           apply AW;simp +decide only [go_sem,Nat.reduceAdd,j,k,m,o,p,hf28,hf30,hf35,hf40,hf46,hf52,hf57,hf62,O,N]
           have hgt:=Option.some.inj h;subst hgt
           refine f _ _ _ ⟨⟨B++[a0.cs,[.val (.int .i64 (FQ b.2))],[.val .nilFunc,.clo 108 [],.clo 110 [],.clo 111 [],.clo 113 [],.clo 116 [],.clo 117 [],.clo 118 [],.clo 119 [],.clo 120 [],.clo 121 []],[.val (.int .i64 (c+1))],a0.cs],Rr7,L⟩,[b.2.cs],by first | rfl | (simp only [List.append_assoc,List.append_nil,List.cons_append,List.nil_append];done),⟨by simp,by first | exact Nat.le_refl _ | (have:=d.len;simp;omega),rfl⟩,rfl,⟨rfl,_,_,_,_,Rr7,ef hs,d.sub (List.nil_sublist _)⟩,?_⟩
           exact .inr (A2 g a d rfl (ln d a) SX ow)
          have N:=hs.1
          refine DO (Do [] _) ?_ (Ba _ _)
          apply Bd;simp +decide only [go_sem,Nat.reduceAdd]
          (repeat' apply And.intro)<;>first | refine f _ _ _ ⟨⟨B++[a0.cs,[.val (.int .i64 0)],[.val .nilFunc,.clo 108 [],.clo 110 [],.clo 111 [],.clo 113 [],.clo 116 [],.clo 117 [],.clo 118 [],.clo 119 [],.clo 120 [],.clo 121 []],[.val (.int .i64 (c+1))],a0.cs],Rr7,L⟩,[b.2.cs],by first | rfl | (simp only [List.append_assoc,List.append_nil,List.cons_append,List.nil_append];done),⟨by simp,by first | exact Nat.le_refl _ | (have:=d.len;simp;omega),rfl⟩,rfl,⟨(c+1),Rr7,ef hs,d,h⟩,?_⟩ | exact cl
          exact .inr (A2 g a d rfl (ln d a) SX ow)
         ·replace h:=AN h hf62
          rcases Bool.eq_false_or_eq_true (decide (b.2.kind=8)) with hf67 | hf67
          ·replace h:=AO h hf67
           have u:b.2.kind=8:=of_decide_eq_true hf67
           have hs:=And.intro hf28 hs
           have hs:=And.intro hf30 hs
           have hs:=And.intro hf35 hs
           have hs:=And.intro hf40 hs
           have hs:=And.intro hf46 hs
           have hs:=And.intro hf52 hs
           have hs:=And.intro hf57 hs
           have hs:=And.intro hf62 hs
           have hs:=And.intro hf67 hs
           have hs:=And.intro u hs
           refine dk 7 2 1 [2,7] hs Gm ?_
           refine Ab _ (Vy w0 _ _ _ b.2) (hv hs) ?_
           refine dn hs e ?_
           clear e
           refine rg [2,7,44] hs ?_
           refine Av h hs (fun hs h=>?_) (fun hs h=>?_)
           ·have J:=hs.1
            refine rg [2] hs ?_
            apply AW;simp +decide only [go_sem,Nat.reduceAdd,j,k,m,o,p,hf28,hf30,hf35,hf40,hf46,hf52,hf57,hf62,hf67,u,J]
            have hgt:=Option.some.inj h;subst hgt
            refine f _ _ _ ⟨⟨B++[a0.cs,[.val (.int .i64 (FM b.2))],[.val .nilFunc,.clo 108 [],.clo 110 [],.clo 111 [],.clo 113 [],.clo 116 [],.clo 117 [],.clo 118 [],.clo 119 [],.clo 120 [],.clo 121 []],[.val (.int .i64 (c+1))],a0.cs],Rr7,L⟩,[b.2.cs],by first | rfl | (simp only [List.append_assoc,List.append_nil,List.cons_append,List.nil_append];done),⟨by simp,by first | exact Nat.le_refl _ | (have:=d.len;simp;omega),rfl⟩,rfl,⟨rfl,_,_,_,_,Rr7,ef hs,d.sub (List.nil_sublist _)⟩,?_⟩
            exact .inr (A2 g a d rfl (ln d a) SX ow)
           have J:=hs.1
           refine DO (Do [] _) ?_ (Ba _ _)
           apply Bd;simp +decide only [go_sem,Nat.reduceAdd]
           (repeat' apply And.intro)<;>first | refine f _ _ _ ⟨⟨B++[a0.cs,[.val (.int .i64 0)],[.val .nilFunc,.clo 108 [],.clo 110 [],.clo 111 [],.clo 113 [],.clo 116 [],.clo 117 [],.clo 118 [],.clo 119 [],.clo 120 [],.clo 121 []],[.val (.int .i64 (c+1))],a0.cs],Rr7,L⟩,[b.2.cs],by first | rfl | (simp only [List.append_assoc,List.append_nil,List.cons_append,List.nil_append];done),⟨by simp,by first | exact Nat.le_refl _ | (have:=d.len;simp;omega),rfl⟩,rfl,⟨(c+1),Rr7,ef hs,d,h⟩,?_⟩ | exact cl
           exact .inr (A2 g a d rfl (ln d a) SX ow)
          ·replace h:=AN h hf67
           rcases Bool.eq_false_or_eq_true (decide (b.2.kind=9)) with hf72 | hf72
           ·replace h:=AO h hf72
            have w:b.2.kind=9:=of_decide_eq_true hf72
            obtain ⟨ax,aj,h⟩:=bind_some h
            have hs:=And.intro hf28 hs
            have hs:=And.intro hf30 hs
            have hs:=And.intro hf35 hs
            have hs:=And.intro hf40 hs
            have hs:=And.intro hf46 hs
            have hs:=And.intro hf52 hs
            have hs:=And.intro hf57 hs
            have hs:=And.intro hf62 hs
            have hs:=And.intro hf67 hs
            have hs:=And.intro hf72 hs
            have hs:=And.intro w hs
            refine dk 7 2 1 [2,7] hs Gm ?_
            refine Ab _ (Xf w0 n _ _ _ b.2 _ aj) (hv hs) ?_
            refine dn hs e ?_
            clear e
            refine rg [2,7,44] hs ?_
            refine Av h hs (fun hs h=>?_) (fun hs h=>?_)
            ·have F:=hs.1
             refine rg [2] hs ?_
             apply AW;simp +decide only [go_sem,Nat.reduceAdd,j,k,m,o,p,hf28,hf30,hf35,hf40,hf46,hf52,hf57,hf62,hf67,hf72,w,F]
             have hgt:=Option.some.inj h;subst hgt
             refine f _ _ _ ⟨⟨B++[a0.cs,[.val (.int .i64 ax)],[.val .nilFunc,.clo 108 [],.clo 110 [],.clo 111 [],.clo 113 [],.clo 116 [],.clo 117 [],.clo 118 [],.clo 119 [],.clo 120 [],.clo 121 []],[.val (.int .i64 (c+1))],a0.cs],Rr7,L⟩,[b.2.cs],by first | rfl | (simp only [List.append_assoc,List.append_nil,List.cons_append,List.nil_append];done),⟨by simp,by first | exact Nat.le_refl _ | (have:=d.len;simp;omega),rfl⟩,rfl,⟨rfl,_,_,_,_,Rr7,ef hs,d.sub (List.nil_sublist _)⟩,?_⟩
             exact .inr (A2 g a d rfl (ln d a) SX ow)
            have F:=hs.1
            refine DO (Do [] _) ?_ (Ba _ _)
            apply Bd;simp +decide only [go_sem,Nat.reduceAdd]
            (repeat' apply And.intro)<;>first | refine f _ _ _ ⟨⟨B++[a0.cs,[.val (.int .i64 0)],[.val .nilFunc,.clo 108 [],.clo 110 [],.clo 111 [],.clo 113 [],.clo 116 [],.clo 117 [],.clo 118 [],.clo 119 [],.clo 120 [],.clo 121 []],[.val (.int .i64 (c+1))],a0.cs],Rr7,L⟩,[b.2.cs],by first | rfl | (simp only [List.append_assoc,List.append_nil,List.cons_append,List.nil_append];done),⟨by simp,by first | exact Nat.le_refl _ | (have:=d.len;simp;omega),rfl⟩,rfl,⟨(c+1),Rr7,ef hs,d,h⟩,?_⟩ | exact cl
            exact .inr (A2 g a d rfl (ln d a) SX ow)
           ·replace h:=AN h hf72
            rcases Bool.eq_false_or_eq_true (decide (b.2.kind=10)) with hf78 | hf78
            ·replace h:=AO h hf78
             have Y:b.2.kind=10:=of_decide_eq_true hf78
             obtain ⟨aw,ah,h⟩:=bind_some h
             have hs:=And.intro hf28 hs
             have hs:=And.intro hf30 hs
             have hs:=And.intro hf35 hs
             have hs:=And.intro hf40 hs
             have hs:=And.intro hf46 hs
             have hs:=And.intro hf52 hs
             have hs:=And.intro hf57 hs
             have hs:=And.intro hf62 hs
             have hs:=And.intro hf67 hs
             have hs:=And.intro hf72 hs
             have hs:=And.intro hf78 hs
             have hs:=And.intro Y hs
             refine dk 7 2 1 [2,7] hs Gm ?_
             refine Ab _ (Vb w0 _ _ _ b.2 _ ah) (hv hs) ?_
             refine dn hs e ?_
             clear e
             refine rg [2,7,44] hs ?_
             refine Av h hs (fun hs h=>?_) (fun hs h=>?_)
             ·have Q:=hs.1
              refine rg [2] hs ?_
              apply AW;simp +decide only [go_sem,Nat.reduceAdd,j,k,m,o,p,hf28,hf30,hf35,hf40,hf46,hf52,hf57,hf62,hf67,hf72,hf78,Y,Q]
              have hgt:=Option.some.inj h;subst hgt
              refine f _ _ _ ⟨⟨B++[a0.cs,[.val (.int .i64 aw)],[.val .nilFunc,.clo 108 [],.clo 110 [],.clo 111 [],.clo 113 [],.clo 116 [],.clo 117 [],.clo 118 [],.clo 119 [],.clo 120 [],.clo 121 []],[.val (.int .i64 (c+1))],a0.cs],Rr7,L⟩,[b.2.cs],by first | rfl | (simp only [List.append_assoc,List.append_nil,List.cons_append,List.nil_append];done),⟨by simp,by first | exact Nat.le_refl _ | (have:=d.len;simp;omega),rfl⟩,rfl,⟨rfl,_,_,_,_,Rr7,ef hs,d.sub (List.nil_sublist _)⟩,?_⟩
              exact .inr (A2 g a d rfl (ln d a) SX ow)
             have Q:=hs.1
             refine DO (Do [] _) ?_ (Ba _ _)
             apply Bd;simp +decide only [go_sem,Nat.reduceAdd]
             (repeat' apply And.intro)<;>first | refine f _ _ _ ⟨⟨B++[a0.cs,[.val (.int .i64 0)],[.val .nilFunc,.clo 108 [],.clo 110 [],.clo 111 [],.clo 113 [],.clo 116 [],.clo 117 [],.clo 118 [],.clo 119 [],.clo 120 [],.clo 121 []],[.val (.int .i64 (c+1))],a0.cs],Rr7,L⟩,[b.2.cs],by first | rfl | (simp only [List.append_assoc,List.append_nil,List.cons_append,List.nil_append];done),⟨by simp,by first | exact Nat.le_refl _ | (have:=d.len;simp;omega),rfl⟩,rfl,⟨(c+1),Rr7,ef hs,d,h⟩,?_⟩ | exact cl
             exact .inr (A2 g a d rfl (ln d a) SX ow)
            ·replace h:=AN h hf78
             cases h
 ·rintro s la ⟨XB,XR,XL⟩ hXR ⟨c,Rr7,rfl,d,h⟩ _ _
  simp only at hXR
  subst hXR
  rw [List.drop_eq_nil_of_le (by rw [LK];exact Nat.le_refl _),BV] at h
  simp only [St.ext,St.push,List.append_assoc,List.append_nil]
  (repeat' apply And.intro)<;>first | refine ae _ _ ?_ | exact cl
  clear ae
  refine RJ (bs:=[a0.cs,[.val (.int .i64 0)],[.val .nilFunc,.clo 108 [],.clo 110 [],.clo 111 [],.clo 113 [],.clo 116 [],.clo 117 [],.clo 118 [],.clo 119 [],.clo 120 [],.clo 121 []],[.val (.int .i64 c)],a0.cs]) hN ay ao rfl q d ow ow ?_
  refine rg [2] hs ?_
  exact rt h hs q d
 ·rintro ex s la ⟨XB,XR,XL⟩ hXR ⟨rfl,z0,z2,z3,z4,rows,rfl,d⟩ _ _
  simp only at hXR
  subst hXR
  simp only [St.ext,St.push,List.append_assoc,List.append_nil]
  simp +decide only [go_sem,Nat.reduceAdd]
  (repeat' with_reducible apply And.intro)<;>first | refine Zj1 q rfl d.pre ev ⟨?_,rfl⟩ | (intros;omega) | (intros;simp_all;done)
  first | rfl | (simp +decide only [go_sem,Nat.reduceAdd];done)
theorem XY {j:Nat}:((j+1:Nat):Int)-1=(j:Int):=by omega
theorem Zaz {j:Nat}:decide (0<((j+1:Nat):Int))=true:=decide_eq_true (by omega)
theorem Zam {k:Nat} (h:k<1000000000000):BR (k:Int):=by unfold BR;omega
def O8:Option ByteArray→List ByteArray→Int
 | _,[]=>0
 | none,x::r=>if Fz x=true then O8 (some x) r else 12
 | some p,x::r=>if Fz x=true then (if Dz x p=true then 7 else if Wj x p=true then 24 else O8 (some x) r) else 12
def Zae (l:List (ByteArray × Vl)):Nat→Option ByteArray
 | 0=>none
 | i+1=>(l[i]?).map Prod.fst
theorem ZaK (n:Nat) (v:Vl) (hl:(v.fields).length≤1000000000000) (hz:∀ p∈v.fields,p.1.size≤maxLen):∀ (k m i:Nat),i+k=(v.fields).length→k<m→Ei n v m i=some (O8 (Zae (v.fields) i) (((v.fields).map Prod.fst).drop i))
 | k,0,i,_,h=>absurd h (Nat.not_lt_zero _)
 | 0,m+1,i,hi,_=>by
  rw [Ei,An,decide_eq_false (by omega)]
  simp only [Bool.false_eq_true,if_false,JZ]
  rw [List.drop_eq_nil_of_le (by rw [List.length_map];omega)]
  cases Zae (v.fields) i<;>rfl
 | k+1,m+1,i,hi,hm=>by
  have a:i<(v.fields).length:=by omega
  have ih:=ZaK n v hl hz k m (i+1) (by omega) (by omega)
  rw [Ei,An,decide_eq_true a]
  simp only [if_true,Au a,Option.bind_some]
  rw [if_pos (hz _ (List.getElem_mem a)),List.drop_eq_getElem_cons (by rw [List.length_map];omega),List.getElem_map]
  have d:Zae (v.fields) (i+1)=some (v.fields)[i].1:=by simp only [Zae,List.getElem?_eq_getElem a];rfl
  rw [d] at ih
  cases i with
  | zero =>
   simp only [Zae,O8]
   by_cases hb:Fz (v.fields)[0].1=true
   ·rw [if_pos hb,hb]
    simp only [Bool.not_true,Bool.false_eq_true,if_false]
    rw [if_neg (by decide),if_pos (Ar (by omega))]
    exact ih
   ·rw [if_neg hb,Bool.eq_false_iff.2 hb];rfl
  | succ j =>
   have b:j<(v.fields).length:=by omega
   have c:Zae (v.fields) (j+1)=some (v.fields)[j].1:=by simp only [Zae,List.getElem?_eq_getElem b];rfl
   rw [c]
   simp only [O8]
   by_cases hb:Fz (v.fields)[j+1].1=true
   ·rw [if_pos hb,hb]
    simp only [Bool.not_true,Bool.false_eq_true,if_false,Zaz,if_true,XY]
    have e:BR (j:Int):=Zam (by omega)
    simp only [if_pos e,Au b,Option.bind_some]
    by_cases h1:Dz (v.fields)[j+1].1 (v.fields)[j].1=true
    ·rw [if_pos h1,if_pos h1]
    ·rw [if_neg h1,if_neg h1]
     by_cases h2:Wj (v.fields)[j+1].1 (v.fields)[j].1=true
     ·rw [if_pos h2,if_pos h2]
     ·rw [if_neg h2,if_neg h2,if_pos (Ar (by omega))]
      exact ih
   ·rw [if_neg hb,Bool.eq_false_iff.2 hb];rfl
def E3 (v:Vl):Int :=
 if BO v=true then 19
 else if v.kind<1∨10<v.kind then 11
 else if B5 v=true then 3
 else if v.kind=1 then (if B8 v.int 0 1=true then 2 else 0)
 else if v.kind=2 then (if B8 v.int (-999999999999999) 999999999999999=true∨B8 v.scale 0 12=true then 2 else 0)
 else if v.kind=3 then (if B8 v.int (-999999999999999) 999999999999999=true∨B8 v.scale 0 12=true then 2 else 0)
 else if v.kind=4 then (if 1024<v.text.size then 5 else if Lib.validD v.text.data.toList=true then 0 else 16)
 else if v.kind=5 then (if 1024<v.text.size then 5 else 0)
 else if v.kind=6 then (if B8 v.int (-719162) 2932896=true then 2 else 0)
 else if v.kind=7 then (if B8 v.int (-62135596800000) 253402300799999=true then 2 else 0)
 else if v.kind=8 then (if 256<v.list.length then 9 else 0)
 else if v.kind=9 then (if 64<v.fields.length then 9 else O8 none (v.fields.map Prod.fst))
 else if Fz v.text=true then (if v.list.length=0 then 4 else if 1<v.list.length then 3 else 0) else 12
theorem G3 {k:Int} (h:¬ (k<1∨10<k)):k=1∨k=2∨k=3∨k=4∨k=5∨k=6∨k=7∨k=8∨k=9∨k=10:=by omega
theorem ZeG (v:Vl) (h:¬ (v.kind<1∨10<v.kind)):LZ v = !B5 v:=by
 have a:∀ x:Nat,decide (0<(x:Int)) = !decide ((x:Int)=0):=fun x=>by
  by_cases h:x=0
  ·subst h;rfl
  ·rw [decide_eq_true (show 0<(x:Int) by omega),decide_eq_false (show ¬ (x:Int)=0 by omega)];rfl
 rw [LZ,B5]
 simp only [a]
 rcases G3 h with hk | hk | hk | hk | hk | hk | hk | hk | hk | hk<;>simp only [hk]<;>simp [Bool.and_assoc]
theorem Zhx (n:Nat) (hn:3≤n) (a b:Int):MD n [a,b]=some (if a=0 then b else a):=by
 obtain ⟨m,rfl⟩:∃ m,n=m+3:=⟨n-3,by omega⟩
 rw [MD,H8]
 simp only [List.length_cons,List.length_nil]
 rw [if_pos (by simp),show Cb [a,b] 0=some a from rfl]
 simp only [Option.bind_some]
 by_cases h:a=0
 ·rw [decide_eq_true h,if_neg (by decide),if_pos (by decide),if_pos h,H8]
  simp only [List.length_cons,List.length_nil]
  rw [if_pos (by simp),show Cb [a,b] (0+1)=some b from rfl]
  simp only [Option.bind_some]
  by_cases h2:b=0
  ·rw [decide_eq_true h2,if_neg (by decide),if_pos (by decide),H8]
   simp only [List.length_cons,List.length_nil]
   rw [if_neg (by simp),NG,h2]
  ·rw [decide_eq_false h2,if_pos (by decide)]
 ·rw [decide_eq_false h,if_pos (by decide),if_neg h]
theorem ZcT (n:Nat) (hn:3≤n) (v:Vl) (hfl:v.fields.length<n) (hs:v.fields.length≤1000000000000) (hv:v.ok) (h1:¬ BO v=true) (h2:¬ (v.kind<1∨10<v.kind)) (h3:¬ B5 v=true) :
  (v.kind=1→FN v=E3 v)∧(v.kind=2→FO v=E3 v)∧(v.kind=3→Jt n v=some (E3 v))∧(v.kind=4→JF v=some (E3 v))∧(v.kind=5→FR v=E3 v) ∧
  (v.kind=6→FK v=E3 v)∧(v.kind=7→FQ v=E3 v)∧(v.kind=8→FM v=E3 v)∧(v.kind=9→JB n v=some (E3 v))∧(v.kind=10→Iy v=some (E3 v)):=by
 obtain ⟨f,_,i⟩:=v.ok_eq.1 hv
 have d:∀ p∈v.fields,p.1.size≤maxLen:=fun p g=>US (by have:=(i p g).1;omega)
 have c:v.text.size≤maxLen:=US f
 rw [E3,if_neg h1,if_neg h2,if_neg h3]
 refine ⟨fun a=>?_,fun a=>?_,fun a=>?_,fun a=>?_,fun a=>?_,fun a=>?_,fun a=>?_,fun a=>?_,fun a=>?_,fun a=>?_⟩
 ·simp [a,FN,BS,B8]
 ·have b:v.scale=0:=by
   rw [B5] at h3
   simp [a] at h3
   exact h3.1.1.1
  simp [a,b,FO,BS,B8]
 ·rw [Jt,Zhx n hn]
  simp [a,BS,B8]
  by_cases q:v.int < -999999999999999∨999999999999999<v.int
  ·simp [q];omega
  ·simp [q];omega
 ·rw [JF]
  simp only [a,C5,Hw,if_pos c]
  simp
  (repeat' split)<;>first | rfl | (exfalso;omega) | simp_all
 ·simp [a,FR,C5]
  (repeat' split)<;>first | rfl | (exfalso;omega) | simp_all
 ·simp [a,FK,BS,B8]
 ·simp [a,FQ,BS,B8]
 ·simp [a,FM,C5]
  (repeat' split)<;>first | rfl | (exfalso;omega) | simp_all
 ·rw [JB]
  by_cases h:64<v.fields.length
  ·simp [a,C5,h,show (64:Int)<(v.fields.length:Int) by omega]
  ·have e:=ZaK n v hs d v.fields.length n 0 (by omega) hfl
   simp only [List.drop_zero] at e
   simp only [a,C5,decide_eq_false (show ¬ (64:Int)<(v.fields.length:Int) by omega),Bool.false_eq_true,if_false,decide_true,Bool.not_true,if_neg h]
   exact e
 ·rw [Iy,if_pos c]
  simp only [a,C5]
  simp
  (repeat' split)<;>first | rfl | (exfalso;omega) | simp_all
theorem ZeH (n:Nat) (hn:3≤n) (lv:Nat) (v:Vl) (rest:List (Nat × Vl)) (c:Int) (hfl:v.fields.length<n) (hs:v.fields.length≤1000000000000) (hv:v.ok) :
  BV n ((lv,v)::rest) c=if BR (c+1) then (if 4096<c+1 then some 9 else if 8<(lv:Int) then some 23 else if E3 v=0 then BV n rest (c+1) else some (E3 v)) else none:=by
 rw [BV]
 by_cases hI:BR (c+1)
 rotate_left
 ·rw [if_neg hI,if_neg hI]
 rw [if_pos hI,if_pos hI]
 by_cases q1:4096<c+1
 ·rw [if_pos q1,if_pos (decide_eq_true q1)]
 rw [if_neg q1,if_neg (by simpa using q1)]
 by_cases q2:8<(lv:Int)
 ·rw [if_pos q2,if_pos (decide_eq_true q2)]
 rw [if_neg q2,if_neg (by simpa using q2)]
 simp only
 by_cases h1:BO v=true
 ·have:E3 v=19:=by rw [E3,if_pos h1]
  rw [if_pos h1,this];rfl
 rw [if_neg h1]
 by_cases h2:v.kind<1∨10<v.kind
 ·have:E3 v=11:=by rw [E3,if_neg h1,if_pos h2]
  rw [if_pos (by simpa using h2),this];rfl
 rw [if_neg (by simpa using h2),ZeG v h2]
 by_cases h3:B5 v=true
 ·have:E3 v=3:=by rw [E3,if_neg h1,if_neg h2,if_pos h3]
  rw [h3,this];rfl
 rw [Bool.eq_false_iff.2 h3]
 obtain ⟨b,j,d,g,f,h,l,i,k,a⟩:=ZcT n hn v hfl hs hv h1 h2 h3
 rcases G3 h2 with hk | hk | hk | hk | hk | hk | hk | hk | hk | hk
 ·have e:=b hk;by_cases z:E3 v=0<;>simp [hk,e,z]
 ·have e:=j hk;by_cases z:E3 v=0<;>simp [hk,e,z]
 ·have e:=d hk;by_cases z:E3 v=0<;>simp [hk,e,z]
 ·have e:=g hk;by_cases z:E3 v=0<;>simp [hk,e,z]
 ·have e:=f hk;by_cases z:E3 v=0<;>simp [hk,e,z]
 ·have e:=h hk;by_cases z:E3 v=0<;>simp [hk,e,z]
 ·have e:=l hk;by_cases z:E3 v=0<;>simp [hk,e,z]
 ·have e:=i hk;by_cases z:E3 v=0<;>simp [hk,e,z]
 ·have e:=k hk;by_cases z:E3 v=0<;>simp [hk,e,z]
 ·have e:=a hk;by_cases z:E3 v=0<;>simp [hk,e,z]
def RX:List (Nat × Vl)→Int→Int
 | [],_=>0
 | p::r,c=>if 4096<c+1 then 9 else if 8<(p.1:Int) then 23 else if E3 p.2=0 then RX r (c+1) else E3 p.2
def N1 (v:Vl):Int:=RX (E8 1 v) 0
theorem OY {v x:Vl} (h:x∈Bt v):x∈v.list∨∃ p∈v.fields,p.2=x:=by
 unfold Bt at h
 split at h
 ·exact .inl h
 ·split at h
  ·obtain ⟨p,a,rfl⟩:=List.mem_map.1 h;exact .inr ⟨p,a,rfl⟩
  ·simp at h
theorem I2 {v x:Vl} (h:x∈Bt v):x.size<v.size:=by
 rcases OY h with h | ⟨p,hp,rfl⟩
 ·exact v.list_size x h
 ·exact v.field_size p hp
theorem ZcA {v x:Vl} (hv:v.ok) (h:x∈Bt v):x.ok:=by
 obtain ⟨_,a,b⟩:=v.ok_eq.1 hv
 rcases OY h with h | ⟨p,hp,rfl⟩
 ·exact a x h
 ·exact (b p hp).2
theorem Zcs:∀ (k:Nat) (v:Vl) (lv:Nat),v.size≤k→v.ok→∀ p∈E8 lv v,p.2.ok∧p.2.size≤v.size
 | 0,v,lv,h,hv,p,hp=>absurd h (by have:=v.size_eq;omega)
 | k+1,v,lv,h,hv,p,hp=>by
  rw [NB] at hp
  rcases List.mem_cons.1 hp with rfl | hp
  ·exact ⟨hv,Nat.le_refl _⟩
  ·obtain ⟨x,a,hp⟩:=List.mem_flatMap.1 hp
   have:=I2 a
   obtain ⟨b,c⟩:=Zcs k x (lv+1) (by omega) (ZcA hv a) p hp
   exact ⟨b,by omega⟩
theorem Yh:∀ (k:Nat) (v:Vl) (lv:Nat),v.size≤k→v.wide=true→∀ p∈E8 lv v,p.2.wide=true
 | 0,v,lv,h,hv,p,hp=>absurd h (by have:=v.size_eq;omega)
 | k+1,v,lv,h,hv,p,hp=>by
  rw [NB] at hp
  rcases List.mem_cons.1 hp with rfl | hp
  ·exact hv
  ·obtain ⟨x,a,hp⟩:=List.mem_flatMap.1 hp
   have:=I2 a
   exact Yh k x (lv+1) (by omega) (V6 hv a) p hp
theorem O2 (v:Vl):v.fields.length<v.size:=by have:=Ny v.fields;have:=v.size_eq;omega
theorem Q7 (n:Nat) (hn:3≤n):∀ (l:List (Nat × Vl)) (c:Int),(∀ p∈l,p.2.ok∧p.2.fields.length≤1000000000000∧p.2.fields.length<n)→0≤c→c≤4096→BV n l c=some (RX l c)
 | [],c,_,_,_=>rfl
 | p::r,c,hl,h1,h2=>by
  obtain ⟨b,d,e⟩:=hl p (List.mem_cons_self ..)
  have:=O2 p.2
  rw [show p=(p.1,p.2) from rfl,ZeH n hn p.1 p.2 r c (by omega) (by omega) b,if_pos (by unfold BR;omega),RX]
  simp only
  split
  ·rfl
  ·split
   ·rfl
   ·split
    ·exact Q7 n hn r (c+1) (fun q a=>hl q (List.mem_cons_of_mem _ a)) (by omega) (by omega)
    ·rfl
theorem ZU (n:Nat) (v:Vl) (hn:v.size+3≤n) (hs:v.depth<4611686018427387904) (hw:v.wide=true) (hv:v.ok):EO n v=some (N1 v):=by
 rw [EO,if_pos ⟨hs,hw⟩]
 exact Q7 n (by omega) _ 0 (fun p a=>by obtain ⟨b,c⟩:=Zcs v.size v 1 (Nat.le_refl _) hv p a;exact ⟨b,(p.2.wide_iff.1 (Yh v.size v 1 (Nat.le_refl _) hw p a)).2.1,by have:=O2 p.2;omega⟩) (by omega) (by omega)
theorem Wp (n:Nat) (v:Vl) (hn:v.size+3≤n) (hs:v.size<1048576) (hv:v.ok):EO n v=some (N1 v) :=
 ZU n v hn (by have:=v.depth_size;omega) (Hm _ v (Nat.le_refl _) (by omega)) hv
theorem Tz:∀ l:List Vl,GU l=(l.map Vl.size).sum
 | []=>rfl
 | v::r=>by simp [GU,Tz r]
theorem TO:∀ l:List (ByteArray × Vl),F9 l=(l.map fun p=>p.2.size).sum
 | []=>rfl
 | (_,v)::r=>by simp [F9,TO r]
theorem ZbQ (v:Vl):((Bt v).map Vl.size).sum<v.size:=by
 have c:=v.size_eq
 unfold Bt
 split
 ·rw [←Tz];omega
 ·split
  ·rw [List.map_map]
   have:=TO v.fields
   have e:(v.fields.map (Vl.size∘fun x=>x.2)).sum=F9 v.fields:=this.symm
   omega
  ·simp;omega
theorem Sm (l:List Ty) (i:Nat) (h:i<l.length):Ha (l.drop i)=l[i].size+Ha (l.drop (i+1)):=by rw [List.drop_eq_getElem_cons h,Ha]
theorem QI (l:List TF) (i:Nat) (h:i<l.length):EG (l.drop i)=l[i].2.2.2.1.size+EG (l.drop (i+1)):=by
 rw [List.drop_eq_getElem_cons h]
 obtain ⟨a,b,c,t,d⟩:=l[i]
 rfl
def Ty.small (t:Ty):Prop:=t.size≤200∧t.depth≤12∧t.ok
def J8 (rec:Ty→Vl→Option Bool) (g:Vl) (b:Ty):Option Bool :=
 (Cb b.elem 0).bind fun q =>
 (rec q g).bind fun h =>
 some (!h)
theorem Zac (w0:World) (rec:Ty→Vl→Option Bool) (ih:∀ (B:List (List AV)) (Rw:List RowA) (L:List LoopA) (a0:Ty) (a1:Vl) (r:Bool) (h:rec a0 a1=some r),ACalls Tryz.prog w0 107 [.agg (a0.cs),.agg (a1.cs)] ⟨B,Rw,L⟩ fun x st=>x = .val (.bool r)∧st=⟨B,Rw,L⟩) (B:List (List AV)) (Rw:List RowA) (L:List LoopA) (a0:Vl) (la1:Nat) (a1:Ty) (hla1:B[la1]? = some (a1.cs)) (r:Bool) (h:J8 rec a0 a1=some r) :
  ACalls Tryz.prog w0 183 [.agg (a0.cs),.box la1 0] ⟨B,Rw,L⟩ fun x st=>x = .val (.bool r)∧st=⟨B,Rw,L⟩:=by
 rw [J8] at h
 refine hd [.tmp 3] Tryz.func183 Tryz.ntmps183 fun M0 W0 t p o b q n hs=>?_
 simp only [Am]
 have g:=(List.getElem?_eq_some_iff.1 hla1).1
 have hs:=And.intro (Af hla1) hs
 refine rg [1,2] hs ?_
 obtain ⟨m,i,h⟩:=bind_some h
 obtain ⟨k,l,c⟩:=Ao i
 have a:=Aq (f:=HK) c
 have d:(a1.elem.map HK).getD 0 .junk=_:=a
 obtain ⟨s,j,h⟩:=bind_some h
 have hs:=And.intro a hs
 have hs:=And.intro d hs
 apply Aa;intro K2 e
 refine dk 8 2 1 [3] hs Gm ?_
 refine Ab _ (ih _ _ _ m a0 _ j) (hv hs) ?_
 refine dn hs e ?_
 clear e
 exact rt h hs b n
def GH (n:Nat)  : Option Int :=
 some ((-1))
def BC (n:Nat) (h:List (ByteArray × Vl)) (s:(ByteArray × Vl)→Option Bool):Nat→Int→Option Int
 | 0,_=>none
 | m+1,b =>
  if decide (b<(h.length:Int)) then
   (Cb h b).bind fun q =>
   (s q).bind fun g =>
   if g then
    some (b)
   else
    if BR (b+1) then
     (BC n h s m) (b+1)
    else none
  else
   GH n 
def B7 (n:Nat) (g:List (ByteArray × Vl)) (b:(ByteArray × Vl)→Option Bool):Option Int :=
 BC n g b n 0
theorem IP (w0:World) (n:Nat) (B:List (List AV)) (Rw:List RowA) (L:List LoopA) (a0:List (ByteArray × Vl)) (fa1:FuncId) (ca1:List AV) (a1:(ByteArray × Vl)→Option Bool) (ha1:∀ (x0:ByteArray × Vl) r,a1 x0=some r→∀ B' rows,B <+: B'→Rw <+: rows→ACalls Tryz.prog w0 fa1 ([.agg (.val (.string x0.1)::(x0.2.cs))]++ca1) ⟨B',rows,L⟩ fun v s=>v = .val (.bool r)∧s=⟨B',rows,L⟩) (r:Int) (h:B7 n a0 a1=some r) :
  ACalls Tryz.prog w0 67 [.list (a0.map BI) .none,.clo fa1 ca1] ⟨B,Rw,L⟩ fun x st=>x = .val (.int .i64 r)∧st=⟨B,Rw,L⟩:=by
 rw [B7] at h
 refine hd [.tmp 4] Tryz.func67 Tryz.ntmps67 fun M0 W0 D t l b F d hs=>?_
 simp only [Am]
 have a:=B6 (F (.clo fa1 ca1) (by simp))
 refine rg [0,1] hs ?_
 refine Ak (fun e st=>Ck e st B Rw L [] [] [] (GH n  = some r)) ?_ ?_
 ·intro K4 u
  refine rg [0,1,7,8] hs ?_
  apply Ad
  refine Ap (fun m e st=>∃ (c:Int),Ck e st B Rw L [(0,true,.list (a0.map BI) .none),(1,true,.clo fa1 ca1),(7,true,.val (.int .i64 (a0.length:Int))),(8,true,.val (.int .i64 c))] [] [] (BC n a0 a1 m c=some r)) n ⟨0,([]),Rw,ef hs,ef hs,d,h⟩ ?_
  rintro ml6 e st ⟨c,Xl6,Rl6,rfl,rfl,d,h⟩ Ul6 Vl6
  cases ml6 with
  | zero=>cases h
  | succ ml6 =>
  rw [BC] at h
  refine AH D t l rfl b d (Jm a d) (Jm a d) ?_
  refine rg [0,1,7,8,9] hs ?_
  apply Aa;intro K8 p
  refine Av h hs (fun hs h=>?_) (fun hs h=>?_)
  rotate_left
  ·refine sx [] hs u ?_
   exact ⟨([]),Rl6,ef hs,ef hs,d,h⟩
  refine sk [0,1,7,8] hs p ?_
  clear p
  apply Aa;intro K10 g
  apply Ad
  refine rg [0,1,5,7,8] hs ?_
  obtain ⟨w,o,h⟩:=bind_some h
  obtain ⟨y,z,k⟩:=Ao o
  have j:=Aq (f:=BI) k
  obtain ⟨E,q,h⟩:=bind_some h
  have hs:=And.intro j hs
  refine rc 2 [0,1,5,7,8,16] hs ?_;intro K12 i
  refine FY _ (ha1 w _ q _ _ px d.pre) (hv hs) ?_
  refine ne hs i ?_
  clear i
  refine Av h hs (fun hs h=>?_) (fun hs h=>?_)
  ·refine rg [4] hs ?_
   exact rt h hs b d
  refine sk [0,1,7,8] hs g ?_
  clear g
  obtain ⟨C,h⟩:=Ac h
  refine rl [0,1,7,8] hs (fun e s=>Vl6 ml6 e s (Nat.lt_succ_self _)) ?_
  exact ⟨(c+1),([]),Rl6,ef hs,ef hs,d,h⟩
 ·clear h;rintro e st ⟨Xk3,Rk3,rfl,rfl,d,h⟩
  rw [GH] at h
  refine AH D t l rfl b d (Jm a d) (Jm a d) ?_
  refine rg [4] hs ?_
  exact rt h hs b d
def G2 (g:ByteArray × Vl) (b:ByteArray):Bool :=
 Dz g.1 b
theorem Xy (w0:World) (B:List (List AV)) (Rw:List RowA) (L:List LoopA) (a0:ByteArray × Vl) (la1:Nat) (a1:ByteArray) (hla1:B[la1]? = some ([.val (.string a1)])) (r:Bool) (h:G2 a0 a1=r) :
  ACalls Tryz.prog w0 124 [.agg (.val (.string a0.1)::(a0.2.cs)),.box la1 0] ⟨B,Rw,L⟩ fun x st=>x = .val (.bool r)∧st=⟨B,Rw,L⟩:=by
 rw [G2] at h
 refine hd [.tmp 3] Tryz.func124 Tryz.ntmps124 fun M0 W0 f e d a g c hs=>?_
 simp only [Am]
 have b:=(List.getElem?_eq_some_iff.1 hla1).1
 have hs:=And.intro (Af hla1) hs
 refine rg [1,2] hs ?_
 refine rg [3] hs ?_
 exact rT h hs a c
theorem Vg (w0:World) (B:List (List AV)) (Rw:List RowA) (L:List LoopA) (a0:ByteArray × Vl) (la1:Nat) (a1:ByteArray) (hla1:B[la1]? = some ([.val (.string a1)])) :
  ACalls Tryz.prog w0 124 [.agg (.val (.string a0.1)::(a0.2.cs)),.box la1 0] ⟨B,Rw,L⟩ fun x st=>x = .val (.bool (G2 a0 a1))∧st=⟨B,Rw,L⟩:=Xy w0 B Rw L a0 la1 a1 hla1 _ rfl
def L0 (n:Nat) (g:Vl) (b:ByteArray):Option Int :=
 (B7 n g.fields (fun (q:ByteArray × Vl)=>some (G2 q b))).bind fun h =>
 some (h)
theorem ZA (w0:World) (n:Nat) (B:List (List AV)) (Rw:List RowA) (L:List LoopA) (a0:Vl) (a1:ByteArray) (r:Int) (h:L0 n a0 a1=some r) :
  ACalls Tryz.prog w0 64 [.agg (a0.cs),.val (.string a1)] ⟨B,Rw,L⟩ fun x st=>x = .val (.int .i64 r)∧st=⟨B,Rw,L⟩:=by
 rw [L0] at h
 refine hd [.tmp 4] Tryz.func64 Tryz.ntmps64 fun M0 W0 j g e a l d hs=>?_
 simp only [Am]
 refine rg [2,3] hs ?_
 obtain ⟨k,hy3,h⟩:=bind_some h
 refine rc 2 [4] hs ?_;intro K2 b
 refine Ab _ (IP w0 n _ _ _ a0.fields 124 [.box (B.length+1) 0] (fun (x0:ByteArray × Vl)=>some (G2 x0 a1)) (fun x0 r hx i c hB' f=>by cases hx;exact Vg w0 _ _ _ x0 _ a1 (Ea hB' ev)) _ hy3) (hv hs) ?_
 refine ne hs b ?_
 clear b
 exact rt h hs a d
def Ht (n:Nat) (g:Vl) (q:ByteArray):Option (Vl × Bool) :=
 (L0 n g q).bind fun h =>
 if (!(decide (g.kind=9)))||(decide (h<0)) then
  some ((Vl.mk 0 0 0 ((⟨#[]⟩:ByteArray)) ([]) ([]),false))
 else
  (Cb g.fields h).bind fun s =>
  (BK n s.2).bind fun b =>
  some ((b,true))
theorem P5 (w0:World) (n:Nat) (B:List (List AV)) (Rw:List RowA) (L:List LoopA) (a0:Vl) (a1:ByteArray) (r:Vl × Bool) (h:Ht n a0 a1=some r) :
  ACalls Tryz.prog w0 185 [.agg (a0.cs),.val (.string a1)] ⟨B,Rw,L⟩ fun x st=>x = .tup [.agg (r.1.cs),.val (.bool r.2)]∧st=⟨B,Rw,L⟩:=by
 rw [Ht] at h
 refine hd [.cell 4 46,.tmp 5] Tryz.func185 Tryz.ntmps185 fun M0 W0 v t p a w m hs=>?_
 simp only [Am]
 refine rg [1,2,4] hs ?_
 obtain ⟨u,j,h⟩:=bind_some h
 refine rc 2 [2,4,6] hs ?_;intro K2 g
 refine Ab _ (ZA w0 n _ _ _ a0 a1 _ j) (hv hs) ?_
 refine ne hs g ?_
 clear g
 apply Aa;intro K4 c
 refine rg [2,4,6,16] hs ?_
 refine Av h hs (fun hs h=>?_) (fun hs h=>?_)
 ·refine rg [4,5] hs ?_
  exact rt h hs a m
 refine sk [2,4,6] hs c ?_
 clear c
 obtain ⟨q,k,h⟩:=bind_some h
 obtain ⟨l,o,d⟩:=Ao k
 have b:=Aq (f:=BI) d
 obtain ⟨s,e,h⟩:=bind_some h
 have hs:=And.intro b hs
 refine rc 2 [4,5] hs ?_;intro K8 i
 refine Ab _ (G7 w0 n _ _ _ q.2 _ e) (hv hs) ?_
 refine ne hs i ?_
 clear i
 exact rt h hs a m
def J5 (n:Nat) (b:Int × ByteArray × Int × Ty × List Vl) (g:Vl):Option Bool :=
 (Ht n g b.2.1).bind fun h =>
 some ((!h.2)&&(!(decide (b.2.2.1=2))))
theorem Zah (w0:World) (n:Nat) (B:List (List AV)) (Rw:List RowA) (L:List LoopA) (a0:Int × ByteArray × Int × Ty × List Vl) (la1:Nat) (a1:Vl) (hla1:B[la1]? = some (a1.cs)) (r:Bool) (h:J5 n a0 a1=some r) :
  ACalls Tryz.prog w0 184 [.agg (.val (.int .i64 a0.1)::(.val (.string a0.2.1)::(.val (.int .i64 a0.2.2.1)::((a0.2.2.2.1.cs)++([.list (a0.2.2.2.2.map A1) .none]))))),.box la1 0] ⟨B,Rw,L⟩ fun x st=>x = .val (.bool r)∧st=⟨B,Rw,L⟩:=by
 rw [J5] at h
 refine hd [.tmp 3] Tryz.func184 Tryz.ntmps184 fun M0 W0 i g f a k e hs=>?_
 simp only [Am]
 have c:=(List.getElem?_eq_some_iff.1 hla1).1
 have hs:=And.intro (Af hla1) hs
 refine rg [1,2] hs ?_
 obtain ⟨j,d,h⟩:=bind_some h
 refine rc 2 [2,5] hs ?_;intro K2 b
 refine Ab _ (P5 w0 n _ _ _ a1 a0.2.1 _ d) (hv hs) ?_
 refine ne hs b ?_
 clear b
 refine rg [3] hs ?_
 exact rt h hs a e
def AA (n:Nat) (g:List (Int × ByteArray × Int × Ty × List Vl)) (b:(Int × ByteArray × Int × Ty × List Vl)→Option Bool):Option Bool :=
 (AL n g b).bind fun h =>
 some (decide (0≤h))
theorem CQ (w0:World) (n:Nat) (B:List (List AV)) (Rw:List RowA) (L:List LoopA) (a0:List (Int × ByteArray × Int × Ty × List Vl)) (fa1:FuncId) (ca1:List AV) (a1:(Int × ByteArray × Int × Ty × List Vl)→Option Bool) (ha1:∀ (x0:Int × ByteArray × Int × Ty × List Vl) r,a1 x0=some r→∀ B' rows,B <+: B'→Rw <+: rows→ACalls Tryz.prog w0 fa1 ([.agg (.val (.int .i64 x0.1)::(.val (.string x0.2.1)::(.val (.int .i64 x0.2.2.1)::((x0.2.2.2.1.cs)++([.list (x0.2.2.2.2.map A1) .none])))))]++ca1) ⟨B',rows,L⟩ fun v s=>v = .val (.bool r)∧s=⟨B',rows,L⟩) (r:Bool) (h:AA n a0 a1=some r) :
  ACalls Tryz.prog w0 150 [.list (a0.map Cd) .none,.clo fa1 ca1] ⟨B,Rw,L⟩ fun x st=>x = .val (.bool r)∧st=⟨B,Rw,L⟩:=by
 rw [AA] at h
 refine hd [.tmp 4] Tryz.func150 Tryz.ntmps150 fun M0 W0 p o k b m g hs=>?_
 simp only [Am]
 have d:=B6 (m (.clo fa1 ca1) (by simp))
 refine rg [0,1] hs ?_
 obtain ⟨q,f,h⟩:=bind_some h
 refine rc 2 [4] hs ?_;intro K2 c
 refine Ab _ (Dy w0 n _ _ _ a0 fa1 ca1 a1 (fun x0 r l e a i j=>ha1 x0 r l e a (List.IsPrefix.trans px i) (g.pre.trans j)) _ f) (hv hs) ?_
 refine ne hs c ?_
 clear c
 exact rt h hs b g
def GB (n:Nat)  : Option Int :=
 some ((-1))
def BU (n:Nat) (h:List Vl) (s:Vl→Option Bool):Nat→Int→Option Int
 | 0,_=>none
 | m+1,b =>
  if decide (b<(h.length:Int)) then
   (Cb h b).bind fun q =>
   (s q).bind fun g =>
   if g then
    some (b)
   else
    if BR (b+1) then
     (BU n h s m) (b+1)
    else none
  else
   GB n 
def EU (n:Nat) (g:List Vl) (b:Vl→Option Bool):Option Int :=
 BU n g b n 0
theorem NN (w0:World) (n:Nat) (B:List (List AV)) (Rw:List RowA) (L:List LoopA) (a0:List Vl) (fa1:FuncId) (ca1:List AV) (a1:Vl→Option Bool) (ha1:∀ (x0:Vl) r,a1 x0=some r→∀ B' rows,B <+: B'→Rw <+: rows→ACalls Tryz.prog w0 fa1 ([.agg (x0.cs)]++ca1) ⟨B',rows,L⟩ fun v s=>v = .val (.bool r)∧s=⟨B',rows,L⟩) (r:Int) (h:EU n a0 a1=some r) :
  ACalls Tryz.prog w0 225 [.list (a0.map A1) .none,.clo fa1 ca1] ⟨B,Rw,L⟩ fun x st=>x = .val (.int .i64 r)∧st=⟨B,Rw,L⟩:=by
 rw [EU] at h
 refine hd [.tmp 4] Tryz.func225 Tryz.ntmps225 fun M0 W0 D t l b F d hs=>?_
 simp only [Am]
 have a:=B6 (F (.clo fa1 ca1) (by simp))
 refine rg [0,1] hs ?_
 refine Ak (fun e st=>Ck e st B Rw L [] [] [] (GB n  = some r)) ?_ ?_
 ·intro K4 u
  refine rg [0,1,7,8] hs ?_
  apply Ad
  refine Ap (fun m e st=>∃ (c:Int),Ck e st B Rw L [(0,true,.list (a0.map A1) .none),(1,true,.clo fa1 ca1),(7,true,.val (.int .i64 (a0.length:Int))),(8,true,.val (.int .i64 c))] [] [] (BU n a0 a1 m c=some r)) n ⟨0,([]),Rw,ef hs,ef hs,d,h⟩ ?_
  rintro ml6 e st ⟨c,Xl6,Rl6,rfl,rfl,d,h⟩ Ul6 Vl6
  cases ml6 with
  | zero=>cases h
  | succ ml6 =>
  rw [BU] at h
  refine AH D t l rfl b d (Jm a d) (Jm a d) ?_
  refine rg [0,1,7,8,9] hs ?_
  apply Aa;intro K8 p
  refine Av h hs (fun hs h=>?_) (fun hs h=>?_)
  rotate_left
  ·refine sx [] hs u ?_
   exact ⟨([]),Rl6,ef hs,ef hs,d,h⟩
  refine sk [0,1,7,8] hs p ?_
  clear p
  apply Aa;intro K10 g
  apply Ad
  refine rg [0,1,5,7,8] hs ?_
  obtain ⟨w,o,h⟩:=bind_some h
  obtain ⟨y,z,k⟩:=Ao o
  have j:=Aq (f:=A1) k
  obtain ⟨E,q,h⟩:=bind_some h
  have hs:=And.intro j hs
  refine rc 2 [0,1,5,7,8,16] hs ?_;intro K12 i
  refine FY _ (ha1 w _ q _ _ px d.pre) (hv hs) ?_
  refine ne hs i ?_
  clear i
  refine Av h hs (fun hs h=>?_) (fun hs h=>?_)
  ·refine rg [4] hs ?_
   exact rt h hs b d
  refine sk [0,1,7,8] hs g ?_
  clear g
  obtain ⟨C,h⟩:=Ac h
  refine rl [0,1,7,8] hs (fun e s=>Vl6 ml6 e s (Nat.lt_succ_self _)) ?_
  exact ⟨(c+1),([]),Rl6,ef hs,ef hs,d,h⟩
 ·clear h;rintro e st ⟨Xk3,Rk3,rfl,rfl,d,h⟩
  rw [GB] at h
  refine AH D t l rfl b d (Jm a d) (Jm a d) ?_
  refine rg [4] hs ?_
  exact rt h hs b d
def C9 (n:Nat) (g:List Vl) (b:Vl→Option Bool):Option Bool :=
 (EU n g b).bind fun h =>
 some (decide (0≤h))
theorem LP (w0:World) (n:Nat) (B:List (List AV)) (Rw:List RowA) (L:List LoopA) (a0:List Vl) (fa1:FuncId) (ca1:List AV) (a1:Vl→Option Bool) (ha1:∀ (x0:Vl) r,a1 x0=some r→∀ B' rows,B <+: B'→Rw <+: rows→ACalls Tryz.prog w0 fa1 ([.agg (x0.cs)]++ca1) ⟨B',rows,L⟩ fun v s=>v = .val (.bool r)∧s=⟨B',rows,L⟩) (r:Bool) (h:C9 n a0 a1=some r) :
  ACalls Tryz.prog w0 182 [.list (a0.map A1) .none,.clo fa1 ca1] ⟨B,Rw,L⟩ fun x st=>x = .val (.bool r)∧st=⟨B,Rw,L⟩:=by
 rw [C9] at h
 refine hd [.tmp 4] Tryz.func182 Tryz.ntmps182 fun M0 W0 p o k b m g hs=>?_
 simp only [Am]
 have d:=B6 (m (.clo fa1 ca1) (by simp))
 refine rg [0,1] hs ?_
 obtain ⟨q,f,h⟩:=bind_some h
 refine rc 2 [4] hs ?_;intro K2 c
 refine Ab _ (NN w0 n _ _ _ a0 fa1 ca1 a1 (fun x0 r l e a i j=>ha1 x0 r l e a (List.IsPrefix.trans px i) (g.pre.trans j)) _ f) (hv hs) ?_
 refine ne hs c ?_
 clear c
 exact rt h hs b g
def HS (n:Nat)  : Option Int :=
 some ((-1))
def C0 (n:Nat) (g:List ByteArray) (q:ByteArray):Nat→Int→Option Int
 | 0,_=>none
 | m+1,b =>
  if decide (b<(g.length:Int)) then
   (Cb g b).bind fun h =>
   if Dz q h then
    some (b)
   else
    if BR (b+1) then
     (C0 n g q m) (b+1)
    else none
  else
   HS n 
def GM (n:Nat) (g:List ByteArray) (b:ByteArray):Option Int :=
 C0 n g b n 0
theorem P4 (w0:World) (n:Nat) (B:List (List AV)) (Rw:List RowA) (L:List LoopA) (a0:List ByteArray) (a1:ByteArray) (r:Int) (h:GM n a0 a1=some r) :
  ACalls Tryz.prog w0 190 [.list (a0.map Nb) .none,.val (.string a1)] ⟨B,Rw,L⟩ fun x st=>x = .val (.int .i64 r)∧st=⟨B,Rw,L⟩:=by
 rw [GM] at h
 refine hd [.tmp 4] Tryz.func190 Tryz.ntmps190 fun M0 W0 v o j a y c hs=>?_
 simp only [Am]
 refine rg [0,1] hs ?_
 refine Ak (fun e st=>Ck e st B Rw L [] [] [] (HS n  = some r)) ?_ ?_
 ·intro K4 p
  refine rg [0,1,7,8] hs ?_
  apply Ad
  refine Ap (fun m e st=>∃ (b:Int),Ck e st B Rw L [(0,true,.list (a0.map Nb) .none),(1,true,.val (.string a1)),(7,true,.val (.int .i64 (a0.length:Int))),(8,true,.val (.int .i64 b))] [] [] (C0 n a0 a1 m b=some r)) n ⟨0,([]),Rw,ef hs,ef hs,c,h⟩ ?_
  rintro ml6 e st ⟨b,Xl6,Rl6,rfl,rfl,c,h⟩ Ul6 Vl6
  cases ml6 with
  | zero=>cases h
  | succ ml6 =>
  rw [C0] at h
  refine td v o j a c ?_
  refine rg [0,1,7,8,9] hs ?_
  apply Aa;intro K8 l
  refine Av h hs (fun hs h=>?_) (fun hs h=>?_)
  rotate_left
  ·refine sx [] hs p ?_
   exact ⟨([]),Rl6,ef hs,ef hs,c,h⟩
  refine sk [0,1,7,8] hs l ?_
  clear l
  apply Aa;intro K10 d
  apply Ad
  refine rg [0,1,5,7,8] hs ?_
  obtain ⟨w,k,h⟩:=bind_some h
  obtain ⟨q,t,i⟩:=Ao k
  have g:=Aq (f:=Nb) i
  have hs:=And.intro g hs
  refine rg [0,1,5,7,8,16] hs ?_
  refine Av h hs (fun hs h=>?_) (fun hs h=>?_)
  ·refine rg [4] hs ?_
   exact rt h hs a c
  refine sk [0,1,7,8] hs d ?_
  clear d
  obtain ⟨u,h⟩:=Ac h
  refine rl [0,1,7,8] hs (fun e s=>Vl6 ml6 e s (Nat.lt_succ_self _)) ?_
  exact ⟨(b+1),([]),Rl6,ef hs,ef hs,c,h⟩
 ·clear h;rintro e st ⟨Xk3,Rk3,rfl,rfl,c,h⟩
  rw [HS] at h
  refine td v o j a c ?_
  refine rg [4] hs ?_
  exact rt h hs a c
def Bm (n:Nat) (g:List ByteArray) (b:ByteArray):Option Bool :=
 (GM n g b).bind fun h =>
 some (decide (0≤h))
theorem EH (w0:World) (n:Nat) (B:List (List AV)) (Rw:List RowA) (L:List LoopA) (a0:List ByteArray) (a1:ByteArray) (r:Bool) (h:Bm n a0 a1=some r) :
  ACalls Tryz.prog w0 131 [.list (a0.map Nb) .none,.val (.string a1)] ⟨B,Rw,L⟩ fun x st=>x = .val (.bool r)∧st=⟨B,Rw,L⟩:=by
 rw [Bm] at h
 refine hd [.tmp 4] Tryz.func131 Tryz.ntmps131 fun M0 W0 g f e a j d hs=>?_
 simp only [Am]
 refine rg [0,1] hs ?_
 obtain ⟨i,c,h⟩:=bind_some h
 refine rc 2 [4] hs ?_;intro K2 b
 refine Ab _ (P4 w0 n _ _ _ a0 a1 _ c) (hv hs) ?_
 refine ne hs b ?_
 clear b
 exact rt h hs a d
def O3 (rec:Ty→Vl→Option Bool) (n:Nat) (h:Ty) (g:Vl):Option Bool :=
 (AA n h.fields (fun (q:Int × ByteArray × Int × Ty × List Vl)=>J5 n q g)).bind fun b =>
 some (!b)
def Qc (rec:Ty→Vl→Option Bool) (n:Nat)  : Option Bool :=
 some (true)
def Ij (rec:Ty→Vl→Option Bool) (n:Nat) (y:Ty) (q:Vl):Nat→Int→Option Bool
 | 0,_=>none
 | m+1,b =>
  if decide (b<(q.fields.length:Int)) then
   (Cb q.fields b).bind fun g =>
   (I4 n y g.1).bind fun h =>
   if !h.2 then
    some (false)
   else
    (rec h.1.2.2.2.1 g.2).bind fun s =>
    if !s then
     some (false)
    else
     if BR (b+1) then
      (Ij rec n y q m) (b+1)
     else none
  else
   O3 rec n y q 
def C4 (rec:Ty→Vl→Option Bool) (n:Nat) (b:Ty) (g:Vl) (h:Bool):Option Bool :=
 if h then
  some ((decide (b.min≤g.int)&&decide (g.int≤b.max))&&(decide (g.scale=b.scale)))
 else
  if decide (b.kind=4) then
   if decide (0<(b.words.length:Int)) then
    (Bm n b.words g.text).bind fun s =>
    some (s)
   else
    some (decide (b.min≤(g.text.size:Int))&&decide ((g.text.size:Int)≤b.max))
  else
   if decide (b.kind=5) then
    some (decide (b.min≤(g.text.size:Int))&&decide ((g.text.size:Int)≤b.max))
   else
    if decide (b.kind=8) then
     if decide (b.min≤(g.list.length:Int))&&decide ((g.list.length:Int)≤b.max) then
      (C9 n g.list (fun (x0:Vl)=>J8 rec x0 b)).bind fun y36 =>
      some (!y36)
     else
      some (false)
    else
     if decide (b.kind=10) then
      (I4 n b g.text).bind fun q =>
      if q.2 then
       (Cb g.list 0).bind fun y =>
       (rec q.1.2.2.2.1 y).bind fun y44 =>
       some (y44)
      else
       some (false)
     else
      if decide (b.kind=9) then
       Ij rec n b g n 0
      else
       Qc rec n 
def S1 (rec:Ty→Vl→Option Bool) (n:Nat) (b:Ty) (g:Vl):Option Bool :=
 if !(decide (g.kind=b.kind)) then
  some (false)
 else
  if decide (b.kind=2) then
   C4 rec n b g true
  else
   if decide (b.kind=6) then
    C4 rec n b g true
   else
    if decide (b.kind=7) then
     C4 rec n b g true
    else
     C4 rec n b g (decide (b.kind=3))
def Jf:Nat→Ty→Vl→Option Bool
 | 0,_,_=>none
 | n+1,g,b=>S1 (Jf n) n g b
def WZ (w0:World) (F:Ty→Vl→Option Bool):Prop:=∀ (B:List (List AV)) (Rw:List RowA) (L:List LoopA) (g:Ty) (b:Vl) (r:Bool),F g b=some r→ACalls Tryz.prog w0 107 [.agg (g.cs),.agg (b.cs)] ⟨B,Rw,L⟩ fun x st=>x = .val (.bool r)∧st=⟨B,Rw,L⟩
theorem Zq (w0:World) (rec:Ty→Vl→Option Bool) (ih:WZ w0 rec) (n:Nat):WZ w0 (S1 rec n):=by
 intro B Rw L a0 a1 r h
 rw [S1] at h
 refine hd [.tmp 4] Tryz.func107 Tryz.ntmps107 fun M0 W0 hN t p a hu c hs=>?_
 simp only [Am]
 refine rg [2,3] hs ?_
 apply Aa;intro K2 af
 refine rg [2,3,15] hs ?_
 refine Av h hs (fun hs h=>?_) (fun hs h=>?_)
 ·refine rg [4] hs ?_
  exact rt h hs a c
 refine sk [2,3] hs af ?_
 clear af
 refine Ak (fun e st=>Ck e st B Rw L [] [a0.cs,a1.cs] [] (Qc rec n  = some r)) ?_ ?_
 ·intro K8 ap
  refine rg [2,3,17] hs ?_
  apply Ad
  refine Ak (fun e st=>∃ (d:Bool),Ck e st B Rw L [(2,true,.box B.length 0),(3,true,.box (B.length+1) 0),(17,true,.val (.int .i64 a0.kind)),(18,true,.val (.bool d))] [a0.cs,a1.cs] [] (C4 rec n a0 a1 d=some r)) ?_ ?_
  ·intro K12 k
   refine rg [2,3,17,18] hs ?_
   refine Av h hs (fun hs h=>?_) (fun hs h=>?_)
   ·refine sk [2,3,17,18] hs k ?_
    exact ⟨true,([]),Rw,ef hs,ef hs,c,h⟩
   refine rg [2,3,17,18] hs ?_
   refine Av h hs (fun hs h=>?_) (fun hs h=>?_)
   ·refine sk [2,3,17,18] hs k ?_
    exact ⟨true,([]),Rw,ef hs,ef hs,c,h⟩
   refine rg [2,3,17,18] hs ?_
   refine Av h hs (fun hs h=>?_) (fun hs h=>?_)
   ·refine sk [2,3,17,18] hs k ?_
    exact ⟨true,([]),Rw,ef hs,ef hs,c,h⟩
   refine rl [2,3,17,18] hs k ?_
   exact ⟨(decide (a0.kind=3)),([]),Rw,ef hs,ef hs,c,h⟩
  ·clear h;rintro e st ⟨d,Xk11,Rk11,rfl,rfl,c,h⟩
   rw [C4] at h
   refine td hN t p a c ?_
   refine Av h hs (fun hs h=>?_) (fun hs h=>?_)
   ·refine rc 2 [4] hs ?_;intro K20 y
    refine Ab _ (QQ w0 _ _ _ a1.int a0.min a0.max) (hv hs) ?_
    refine ne hs y ?_
    clear y
    exact rt h hs a c
   refine rg [2,3,17,37] hs ?_
   refine Av h hs (fun hs h=>?_) (fun hs h=>?_)
   ·apply Aa;intro K23 C
    refine rg [2,3,42] hs ?_
    refine Av h hs (fun hs h=>?_) (fun hs h=>?_)
    ·obtain ⟨aw,aa,h⟩:=bind_some h
     refine rc 2 [4] hs ?_;intro K26 v
     refine Ab _ (EH w0 n _ _ _ a0.words a1.text _ aa) (hv hs) ?_
     refine ne hs v ?_
     clear v
     exact rt h hs a c
    refine sk [2,3] hs C ?_
    clear C
    refine rc 2 [4] hs ?_;intro K28 w
    refine Ab _ (QQ w0 _ _ _ (a1.text.size:Int) a0.min a0.max) (hv hs) ?_
    refine ne hs w ?_
    clear w
    exact rt h hs a c
   refine rg [2,3,17,56] hs ?_
   refine Av h hs (fun hs h=>?_) (fun hs h=>?_)
   ·refine rc 2 [4] hs ?_;intro K31 D
    refine Ab _ (QQ w0 _ _ _ (a1.text.size:Int) a0.min a0.max) (hv hs) ?_
    refine ne hs D ?_
    clear D
    exact rt h hs a c
   refine rg [2,3,17,66] hs ?_
   refine Av h hs (fun hs h=>?_) (fun hs h=>?_)
   ·apply Aa;intro K34 l
    rcases Bool.eq_false_or_eq_true (decide (a0.min≤(a1.list.length:Int))&&decide ((a1.list.length:Int)≤a0.max)) with hf35 | hf35
    ·replace h:=AO h hf35
     obtain ⟨au,ae,h⟩:=bind_some h
     have hs:=And.intro hf35 hs
     refine rk 3 [4] hs ?_
     refine Ab _ (QQ w0 _ _ _ (a1.list.length:Int) a0.min a0.max) (hv hs) ?_
     refine nc hs ?_
     refine Ab _ (LP w0 n _ _ _ a1.list 183 [.box B.length 0] (fun (K:Vl)=>J8 rec K a0) (fun K r hx B' N O ah=>by exact Zac w0 rec ih _ _ _ K _ a0 (Ea O (ef hs)) _ hx) _ ae) (hv hs) ?_
     refine ne hs l ?_
     clear l
     exact rt h hs a c
    ·replace h:=AN h hf35
     have hs:=And.intro hf35 hs
     refine rk 3 [4] hs ?_
     refine Ab _ (QQ w0 _ _ _ (a1.list.length:Int) a0.min a0.max) (hv hs) ?_
     refine nc hs ?_
     refine As ?_
     refine ne hs l ?_
     clear l
     exact rt h hs a c
   refine rg [2,3,17,83] hs ?_
   refine Av h hs (fun hs h=>?_) (fun hs h=>?_)
   ·obtain ⟨U,Y,h⟩:=bind_some h
    refine rc 2 [3,5,6] hs ?_;intro K39 x
    refine Ab _ (PY w0 n _ _ _ a0 a1.text _ Y) (hv hs) ?_
    refine ne hs x ?_
    clear x
    apply Aa;intro K41 j
    rcases Bool.eq_false_or_eq_true (U.2) with hf42 | hf42
    ·replace h:=AO h hf42
     obtain ⟨am,aj,ak,o,h⟩:=ix A1 h
     have H:(a1.list.map A1).getD 0 .junk=_:=o
     obtain ⟨ar,V,h⟩:=bind_some h
     have hs:=And.intro hf42 hs
     have hs:=And.intro o hs
     have hs:=And.intro H hs
     refine dk 11 2 1 [4] hs Gm ?_
     refine Ab _ (ih _ _ _ U.1.2.2.2.1 am _ V) (hv hs) ?_
     refine dn hs j ?_
     clear j
     exact rt h hs a c
    ·replace h:=AN h hf42
     have hs:=And.intro hf42 hs
     refine dk 11 2 1 [4] hs Gm ?_
     refine As ?_
     refine dn hs j ?_
     clear j
     exact rt h hs a c
   refine rg [2,3,102] hs ?_
   refine Av h hs (fun hs h=>?_) (fun hs h=>?_)
   ·refine Ak (fun e st=>Ck e st B Rw L [(2,true,.box B.length 0),(3,true,.box (B.length+1) 0)] [a0.cs,a1.cs] [] (O3 rec n a0 a1  = some r)) ?_ ?_
    ·intro K49 Z
     refine rg [2,3,105,106,107] hs ?_
     apply Ad
     refine Ap (fun m e st=>∃ (b:Int),Ck e st B Rw L [(2,true,.box B.length 0),(3,true,.box (B.length+1) 0),(105,true,.list (a1.fields.map BI) .none),(106,true,.val (.int .i64 (a1.fields.length:Int))),(107,true,.val (.int .i64 b))] [a0.cs,a1.cs] [] (Ij rec n a0 a1 m b=some r)) n ⟨0,([]),Rk11,ef hs,ef hs,c,h⟩ ?_
     rintro ml51 e st ⟨b,Xl51,Rl51,rfl,rfl,c,h⟩ Ul51 Vl51
     cases ml51 with
     | zero=>cases h
     | succ ml51 =>
     rw [Ij] at h
     refine td hN t p a c ?_
     refine rg [2,3,105,106,107,108] hs ?_
     apply Aa;intro K53 F
     refine Av h hs (fun hs h=>?_) (fun hs h=>?_)
     rotate_left
     ·refine sx [2,3] hs Z ?_
      exact ⟨([]),Rl51,ef hs,ef hs,c,h⟩
     refine sk [2,3,105,106,107] hs F ?_
     clear F
     apply Aa;intro K55 z
     apply Ad
     obtain ⟨q,ab,h⟩:=bind_some h
     obtain ⟨ai,ao,G⟩:=Ao ab
     have J:=Aq (f:=BI) G
     have hs:=And.intro J hs
     refine rg [2,3,8,105,106,107] hs ?_
     obtain ⟨g,ad,h⟩:=bind_some h
     refine rc 2 [2,3,8,9,10,105,106,107] hs ?_;intro K58 u
     refine Ab _ (PY w0 n _ _ _ a0 q.1 _ ad) (hv hs) ?_
     refine ne hs u ?_
     clear u
     apply Aa;intro K60 i
     rcases Bool.eq_false_or_eq_true (!g.2) with hf61 | hf61
     ·replace h:=AO h hf61
      have hs:=And.intro hf61 hs
      refine rk 2 [2,3,105,106,107,127] hs ?_
      refine As ?_
      refine ne hs i ?_
      clear i
      refine AP true ev (ef hs) (fun hb62=>?_) (fun hb62=>by cases hb62)
      refine rg [4] hs ?_
      exact rt h hs a c
     ·replace h:=AN h hf61
      obtain ⟨av,ag,h⟩:=bind_some h
      have hs:=And.intro hf61 hs
      refine rk 2 [2,3,105,106,107,127] hs ?_
      refine Ab _ (ih _ _ _ g.1.2.2.2.1 q.2 _ ag) (hv hs) ?_
      refine ne hs i ?_
      clear i
      refine Av h hs (fun hs h=>?_) (fun hs h=>?_)
      ·refine rg [4] hs ?_
       exact rt h hs a c
      refine sk [2,3,105,106,107] hs z ?_
      clear z
      obtain ⟨aq,h⟩:=Ac h
      refine rl [2,3,105,106,107] hs (fun e s=>Vl51 ml51 e s (Nat.lt_succ_self _)) ?_
      exact ⟨(b+1),([.val (.string q.1)::(q.2.cs),.val (.int .i64 g.1.1)::(.val (.string g.1.2.1)::(.val (.int .i64 g.1.2.2.1)::((g.1.2.2.2.1.cs)++([.list (g.1.2.2.2.2.map A1) .none]))))]),Rl51,ef hs,ef hs,c,h⟩
    ·clear h;rintro e st ⟨Xk48,Rk48,rfl,rfl,c,h⟩
     rw [O3] at h
     refine td hN t p a c ?_
     obtain ⟨ax,Q,h⟩:=bind_some h
     refine rc 2 [4] hs ?_;intro K68 E
     refine Ab _ (CQ w0 n _ _ _ a0.fields 184 [.box (B.length+1) 0] (fun (K:Int × ByteArray × Int × Ty × List Vl)=>J5 n K a1) (fun K r hx B' N O ah=>by exact Zah w0 n _ _ _ K _ a1 (Ea O (ef hs)) _ hx) _ Q) (hv hs) ?_
     refine ne hs E ?_
     clear E
     exact rt h hs a c
   refine sk [] hs ap ?_
   exact ⟨([]),Rk11,ef hs,ef hs,c,h⟩
 ·clear h;rintro e st ⟨Xk7,Rk7,rfl,rfl,c,h⟩
  rw [Qc] at h
  refine td hN t p a c ?_
  refine rg [4] hs ?_
  exact rt h hs a c
theorem Y6 (w0:World):∀ n:Nat,WZ w0 (Jf n)
 | 0=>fun _ _ _ _ _ _ h=>(nomatch h)
 | n+1=>Zq w0 (Jf n) (Y6 w0 n) n
def Jy (n:Nat) (h:Ty) (b:Vl):Option Bool :=
 (EO n b).bind fun q =>
 if decide (q=0) then
  (Jf n h b).bind fun g =>
  some (g)
 else
  some (false)
theorem W7 (w0:World) (hT:Lib.Utf8Tabs 0 1 w0) (n:Nat) (B:List (List AV)) (Rw:List RowA) (L:List LoopA) (a0:Ty) (a1:Vl) (r:Bool) (h:Jy n a0 a1=some r) :
  ACalls Tryz.prog w0 59 [.agg (a0.cs),.agg (a1.cs)] ⟨B,Rw,L⟩ fun x st=>x = .val (.bool r)∧st=⟨B,Rw,L⟩:=by
 rw [Jy] at h
 refine hd [.tmp 4] Tryz.func59 Tryz.ntmps59 fun M0 W0 k i f a j e hs=>?_
 simp only [Am]
 refine rg [2,3] hs ?_
 apply Aa;intro K2 b
 obtain ⟨g,c,h⟩:=bind_some h
 rcases Bool.eq_false_or_eq_true (decide (g=0)) with hf4 | hf4
 ·replace h:=AO h hf4
  obtain ⟨l,d,h⟩:=bind_some h
  have hs:=And.intro hf4 hs
  refine rk 3 [4] hs ?_
  refine Ab _ (KC w0 hT n _ _ _ a1 _ c) (hv hs) ?_
  refine nc hs ?_
  refine Ab _ (Y6 w0 n _ _ _ a0 a1 _ d) (hv hs) ?_
  refine ne hs b ?_
  clear b
  exact rt h hs a e
 ·replace h:=AN h hf4
  have hs:=And.intro hf4 hs
  refine rk 3 [4] hs ?_
  refine Ab _ (KC w0 hT n _ _ _ a1 _ c) (hv hs) ?_
  refine nc hs ?_
  refine As ?_
  refine ne hs b ?_
  clear b
  exact rt h hs a e
def Ek (g:Int × ByteArray × Int × Ty × List Vl) (b:Int × ByteArray × Int × Ty × List Vl):Bool :=
 (Dz g.2.1 b.2.1)||(decide (g.1=b.1))
theorem Xs (w0:World) (B:List (List AV)) (Rw:List RowA) (L:List LoopA) (a0:Int × ByteArray × Int × Ty × List Vl) (la1:Nat) (a1:Int × ByteArray × Int × Ty × List Vl) (hla1:B[la1]? = some (.val (.int .i64 a1.1)::(.val (.string a1.2.1)::(.val (.int .i64 a1.2.2.1)::((a1.2.2.2.1.cs)++([.list (a1.2.2.2.2.map A1) .none])))))) (r:Bool) (h:Ek a0 a1=r) :
  ACalls Tryz.prog w0 227 [.agg (.val (.int .i64 a0.1)::(.val (.string a0.2.1)::(.val (.int .i64 a0.2.2.1)::((a0.2.2.2.1.cs)++([.list (a0.2.2.2.2.map A1) .none]))))),.box la1 0] ⟨B,Rw,L⟩ fun x st=>x = .val (.bool r)∧st=⟨B,Rw,L⟩:=by
 rw [Ek] at h
 refine hd [.tmp 3] Tryz.func227 Tryz.ntmps227 fun M0 W0 f e d a g c hs=>?_
 simp only [Am]
 have b:=(List.getElem?_eq_some_iff.1 hla1).1
 have hs:=And.intro (Af hla1) hs
 refine rg [1,2] hs ?_
 refine rg [3] hs ?_
 exact rT h hs a c
theorem Vm (w0:World) (B:List (List AV)) (Rw:List RowA) (L:List LoopA) (a0:Int × ByteArray × Int × Ty × List Vl) (la1:Nat) (a1:Int × ByteArray × Int × Ty × List Vl) (hla1:B[la1]? = some (.val (.int .i64 a1.1)::(.val (.string a1.2.1)::(.val (.int .i64 a1.2.2.1)::((a1.2.2.2.1.cs)++([.list (a1.2.2.2.2.map A1) .none])))))) :
  ACalls Tryz.prog w0 227 [.agg (.val (.int .i64 a0.1)::(.val (.string a0.2.1)::(.val (.int .i64 a0.2.2.1)::((a0.2.2.2.1.cs)++([.list (a0.2.2.2.2.map A1) .none]))))),.box la1 0] ⟨B,Rw,L⟩ fun x st=>x = .val (.bool (Ek a0 a1))∧st=⟨B,Rw,L⟩:=Xs w0 B Rw L a0 la1 a1 hla1 _ rfl
def Md (n:Nat) (g:Ty) (h:Int):Option Int :=
 (Cb g.fields h).bind fun b =>
 if b.2.1.size≤maxLen then
  if !(Fz b.2.1) then
   some (12)
  else
   if !(decide (1≤b.1)&&decide (b.1≤9999)) then
    some (2)
   else
    if 0≤0∧0≤h∧h≤(g.fields.length:Int) then
     (AA n (g.fields.take h.toNat) (fun (s:Int × ByteArray × Int × Ty × List Vl)=>some (Ek s b))).bind fun q =>
     if q then
      some (7)
     else
      if (!(decide (1≤b.2.2.1)&&decide (b.2.2.1≤3)))||((decide (g.kind=10))&&(!(decide (b.2.2.1=1)))) then
       some (11)
      else
       if (decide (b.2.2.1=3))&&(decide ((b.2.2.2.2.length:Int)=0)) then
        some (4)
       else
        if (decide (1<(b.2.2.2.2.length:Int)))||((!(decide (b.2.2.1=3)))&&(decide (0<(b.2.2.2.2.length:Int)))) then
         some (3)
        else
         some (0)
    else none
 else none
theorem ZM (w0:World) (n:Nat) (B:List (List AV)) (Rw:List RowA) (L:List LoopA) (a0:Ty) (a1:Int) (r:Int) (h:Md n a0 a1=some r) :
  ACalls Tryz.prog w0 195 [.agg (a0.cs),.val (.int .i64 a1)] ⟨B,Rw,L⟩ fun x st=>x = .val (.int .i64 r)∧st=⟨B,Rw,L⟩:=by
 rw [Md] at h
 refine hd [.tmp 4] Tryz.func195 Tryz.ntmps195 fun M0 W0 z w u a C d hs=>?_
 simp only [Am]
 refine rg [1,2] hs ?_
 obtain ⟨x3,m,h⟩:=bind_some h
 obtain ⟨q,p,g⟩:=Ao m
 have k:=Aq (f:=Cd) g
 have hs:=And.intro k hs
 refine rg [1,2,5] hs ?_
 apply Aa;intro K4 e
 apply Ad
 obtain ⟨l,h⟩:=Ac h
 refine rc 2 [1,2,5,11] hs ?_;intro K5 i
 refine Ab _ (RO w0 _ _ _ x3.2.1 l) (hv hs) ?_
 refine ne hs i ?_
 clear i
 refine Av h hs (fun hs h=>?_) (fun hs h=>?_)
 ·refine rg [4] hs ?_
  exact rt h hs a d
 refine rc 2 [1,2,5,16] hs ?_;intro K9 j
 refine Ab _ (QQ w0 _ _ _ x3.1 1 9999) (hv hs) ?_
 refine ne hs j ?_
 clear j
 refine Av h hs (fun hs h=>?_) (fun hs h=>?_)
 ·refine rg [4] hs ?_
  exact rt h hs a d
 obtain ⟨s,h⟩:=Ac h
 obtain ⟨t,hy14,h⟩:=bind_some h
 refine rc 2 [2,5,21] hs ?_;intro K12 c
 refine Ab _ (CQ w0 n _ _ _ (a0.fields.take a1.toNat) 227 [.box (B.length+1) 0] (fun (x0:Int × ByteArray × Int × Ty × List Vl)=>some (Ek x0 x3)) (fun x0 r hx y o hB' v=>by cases hx;exact Vm w0 _ _ _ x0 _ x3 (Ea hB' (ef hs))) _ hy14) (hv hs) ?_
 refine ne hs c ?_
 clear c
 refine Av h hs (fun hs h=>?_) (fun hs h=>?_)
 ·refine rg [4] hs ?_
  exact rt h hs a d
 refine rc 2 [5,28] hs ?_;intro K17 b
 refine Ab _ (QQ w0 _ _ _ x3.2.2.1 1 3) (hv hs) ?_
 refine ne hs b ?_
 clear b
 refine Av h hs (fun hs h=>?_) (fun hs h=>?_)
 ·refine rg [4] hs ?_
  exact rt h hs a d
 refine rg [5,43] hs ?_
 refine Av h hs (fun hs h=>?_) (fun hs h=>?_)
 ·refine rg [4] hs ?_
  exact rt h hs a d
 refine rg [53] hs ?_
 refine Av h hs (fun hs h=>?_) (fun hs h=>?_)
 ·refine rg [4] hs ?_
  exact rt h hs a d
 refine sk [] hs e ?_
 clear e
 refine rg [4] hs ?_
 exact rt h hs a d
def Ig  (b:Bool):Int :=
 if b then
  3
 else
  0
def Ko (b:Ty) (g:Lim):Int :=
 if (!g.bounds)&&((!(decide (b.min=0)))||(!(decide (b.max=0)))) then
  Ig  true
 else
  if (!g.scale)&&(!(decide (b.scale=0))) then
   Ig  true
  else
   if (!g.text)&&(decide (0<(b.words.length:Int))) then
    Ig  true
   else
    if (!g.list)&&(decide (0<(b.elem.length:Int))) then
     Ig  true
    else
     Ig  ((!g.fields)&&(decide (0<(b.fields.length:Int))))
theorem Zbs (w0:World) (B:List (List AV)) (Rw:List RowA) (L:List LoopA) (a0:Ty) (a1:Lim) (r:Int) (h:Ko a0 a1=r) :
  ACalls Tryz.prog w0 193 [.agg (a0.cs),.agg (.val (.string a1.name)::(.val (.int .i64 a1.low)::(.val (.int .i64 a1.high)::(.val (.bool a1.bounds)::(.val (.bool a1.scale)::(.val (.bool a1.text)::(.val (.bool a1.list)::([.val (.bool a1.fields)]))))))))] ⟨B,Rw,L⟩ fun x st=>x = .val (.int .i64 r)∧st=⟨B,Rw,L⟩:=by
 rw [Ko] at h
 refine hd [.tmp 4] Tryz.func193 Tryz.ntmps193 fun M0 W0 j i g b k d hs=>?_
 simp only [Am]
 refine rg [2,3] hs ?_
 apply Aa;intro K2 f
 apply Ad
 refine Ak (fun e st=>∃ (a:Bool),Ck e st B Rw L [(5,true,.val (.bool a))] [a0.cs,.val (.string a1.name)::(.val (.int .i64 a1.low)::(.val (.int .i64 a1.high)::(.val (.bool a1.bounds)::(.val (.bool a1.scale)::(.val (.bool a1.text)::(.val (.bool a1.list)::([.val (.bool a1.fields)])))))))] [] (Ig  a=r)) ?_ ?_
 ·intro K5 c
  refine rg [2,3,5] hs ?_
  refine Av h hs (fun hs h=>?_) (fun hs h=>?_)
  ·refine sk [5] hs c ?_
   exact ⟨true,([]),Rw,ef hs,ef hs,d,h⟩
  refine rg [2,3,5] hs ?_
  refine Av h hs (fun hs h=>?_) (fun hs h=>?_)
  ·refine sk [5] hs c ?_
   exact ⟨true,([]),Rw,ef hs,ef hs,d,h⟩
  refine rg [2,3,5] hs ?_
  refine Av h hs (fun hs h=>?_) (fun hs h=>?_)
  ·refine sk [5] hs c ?_
   exact ⟨true,([]),Rw,ef hs,ef hs,d,h⟩
  refine rg [2,3,5] hs ?_
  refine Av h hs (fun hs h=>?_) (fun hs h=>?_)
  ·refine sk [5] hs c ?_
   exact ⟨true,([]),Rw,ef hs,ef hs,d,h⟩
  refine rl [5] hs c ?_
  exact ⟨((!a1.fields)&&(decide (0<(a0.fields.length:Int)))),([]),Rw,ef hs,ef hs,d,h⟩
 ·clear h;rintro e st ⟨a,Xk4,Rk4,rfl,rfl,d,h⟩
  rw [Ig] at h
  refine td j i g b d ?_
  refine Av h hs (fun hs h=>?_) (fun hs h=>?_)
  ·refine rg [4] hs ?_
   exact rT h hs b d
  refine sk [] hs f ?_
  clear f
  refine rg [4] hs ?_
  exact rT h hs b d
theorem Zz (w0:World) (B:List (List AV)) (Rw:List RowA) (L:List LoopA) (a0:Ty) (a1:Lim) :
  ACalls Tryz.prog w0 193 [.agg (a0.cs),.agg (.val (.string a1.name)::(.val (.int .i64 a1.low)::(.val (.int .i64 a1.high)::(.val (.bool a1.bounds)::(.val (.bool a1.scale)::(.val (.bool a1.text)::(.val (.bool a1.list)::([.val (.bool a1.fields)]))))))))] ⟨B,Rw,L⟩ fun x st=>x = .val (.int .i64 (Ko a0 a1))∧st=⟨B,Rw,L⟩:=Zbs w0 B Rw L a0 a1 _ rfl
def Il  : ((List Lim)) :=
 [Lim.mk ((⟨#[]⟩:ByteArray)) 0 0 false false false false false,Lim.mk ((⟨#[98,111,111,108]⟩:ByteArray)) 0 0 false false false false false,Lim.mk ((⟨#[105,110,116]⟩:ByteArray)) ((-999999999999999)) 999999999999999 true false false false false,Lim.mk ((⟨#[100,101,99,105,109,97,108]⟩:ByteArray)) ((-999999999999999)) 999999999999999 true true false false false,Lim.mk ((⟨#[116,101,120,116]⟩:ByteArray)) 0 1024 true false true false false,Lim.mk ((⟨#[98,121,116,101,115]⟩:ByteArray)) 0 1024 true false false false false,Lim.mk ((⟨#[100,97,116,101]⟩:ByteArray)) ((-719162)) 2932896 true false false false false,Lim.mk ((⟨#[116,105,109,101]⟩:ByteArray)) ((-62135596800000)) 253402300799999 true false false false false,Lim.mk ((⟨#[108,105,115,116]⟩:ByteArray)) 0 256 true false false true false,Lim.mk ((⟨#[114,101,99,111,114,100]⟩:ByteArray)) 0 0 false false false false true,Lim.mk ((⟨#[118,97,114,105,97,110,116]⟩:ByteArray)) 0 0 false false false false true]
theorem ZQ (w0:World) (B:List (List AV)) (Rw:List RowA) (L:List LoopA)  (r:(List Lim)) (h:Il  = r) :
  ACalls Tryz.prog w0 192 [] ⟨B,Rw,L⟩ fun x st=>x = .agg (r.flatMap fun x=>(XI x).cells)∧st=⟨B,Rw,L⟩:=by
 rw [Il] at h
 refine hd [.cell 0 185] Tryz.func192 Tryz.ntmps192 fun M0 W0 e d c a f b hs=>?_
 simp only [Am]
 refine rg [0] hs ?_
 refine rg [0] (al hs) ?_
 exact rT h hs a b
theorem YB (w0:World) (B:List (List AV)) (Rw:List RowA) (L:List LoopA)  :
  ACalls Tryz.prog w0 192 [] ⟨B,Rw,L⟩ fun x st=>x = .agg ((Il ).flatMap fun x=>(XI x).cells)∧st=⟨B,Rw,L⟩:=ZQ w0 B Rw L  _ rfl
def Gn (b:ByteArray):Vl :=
 Vl.mk 4 0 0 b ([]) ([])
theorem Za8 (w0:World) (B:List (List AV)) (Rw:List RowA) (L:List LoopA) (a0:ByteArray) (r:Vl) (h:Gn a0=r) :
  ACalls Tryz.prog w0 168 [.val (.string a0)] ⟨B,Rw,L⟩ fun x st=>x = .agg (r.cs)∧st=⟨B,Rw,L⟩:=by
 rw [Gn] at h
 refine hd [.cell 2 46] Tryz.func168 Tryz.ntmps168 fun M0 W0 e d c a f b hs=>?_
 simp only [Am]
 refine rg [0,2] hs ?_
 refine rg [2] hs ?_
 exact rT h hs a b
theorem Ur (w0:World) (B:List (List AV)) (Rw:List RowA) (L:List LoopA) (a0:ByteArray) :
  ACalls Tryz.prog w0 168 [.val (.string a0)] ⟨B,Rw,L⟩ fun x st=>x = .agg ((Gn a0).cs)∧st=⟨B,Rw,L⟩:=Za8 w0 B Rw L a0 _ rfl
def LG (n:Nat)  : Option Int :=
 some (0)
def FV (n:Nat) (q:Ty):Nat→Int→Option Int
 | 0,_=>none
 | m+1,b =>
  if decide (b<(q.words.length:Int)) then
   (Cb q.words b).bind fun g =>
   (EO n (Gn g)).bind fun h =>
   if !(decide (h=0)) then
    some (h)
   else
    if decide (0<b) then
     if BR (b-1) then
      (Cb q.words (b-1)).bind fun s =>
      if Dz g s then
       some (7)
      else
       if BR (b-1) then
        if Wj g s then
         some (24)
        else
         if BR (b+1) then
          (FV n q m) (b+1)
         else none
       else none
     else none
    else
     if BR (b+1) then
      (FV n q m) (b+1)
     else none
  else
   LG n 
def ME (n:Nat) (b:Ty):Option Int :=
 if (!(decide (b.min=0)))||(!(decide (b.max=0))) then
  some (3)
 else
  if decide (64<(b.words.length:Int)) then
   some (9)
  else
   FV n b n 0
theorem ZO (w0:World) (hT:Lib.Utf8Tabs 0 1 w0) (n:Nat) (B:List (List AV)) (Rw:List RowA) (L:List LoopA) (a0:Ty) (r:Int) (h:ME n a0=some r) :
  ACalls Tryz.prog w0 194 [.agg (a0.cs)] ⟨B,Rw,L⟩ fun x st=>x = .val (.int .i64 r)∧st=⟨B,Rw,L⟩:=by
 rw [ME] at h
 refine hd [.tmp 2] Tryz.func194 Tryz.ntmps194 fun M0 W0 O C t b V i hs=>?_
 simp only [Am]
 refine rg [1] hs ?_
 apply Aa;intro K2 z
 apply Ad
 refine rg [1,6] hs ?_
 refine Av h hs (fun hs h=>?_) (fun hs h=>?_)
 ·refine rg [2] hs ?_
  exact rt h hs b i
 refine rg [1,15] hs ?_
 refine Av h hs (fun hs h=>?_) (fun hs h=>?_)
 ·refine rg [2] hs ?_
  exact rt h hs b i
 refine sk [1] hs z ?_
 clear z
 refine Ak (fun e st=>Ck e st B Rw L [] [a0.cs] [] (LG n  = some r)) ?_ ?_
 ·intro K11 w
  refine rg [1,21,22,23] hs ?_
  apply Ad
  refine Ap (fun m e st=>∃ (a:Int),Ck e st B Rw L [(1,true,.box B.length 0),(21,true,.list (a0.words.map Nb) .none),(22,true,.val (.int .i64 (a0.words.length:Int))),(23,true,.val (.int .i64 a))] [a0.cs] [] (FV n a0 m a=some r)) n ⟨0,([]),Rw,ef hs,ef hs,i,h⟩ ?_
  rintro ml13 e st ⟨a,Xl13,Rl13,rfl,rfl,i,h⟩ Ul13 Vl13
  cases ml13 with
  | zero=>cases h
  | succ ml13 =>
  rw [FV] at h
  refine td O C t b i ?_
  refine rg [1,21,22,23,24] hs ?_
  apply Aa;intro K15 k
  refine Av h hs (fun hs h=>?_) (fun hs h=>?_)
  rotate_left
  ·refine sx [] hs w ?_
   exact ⟨([]),Rl13,ef hs,ef hs,i,h⟩
  refine sk [1,21,22,23] hs k ?_
  clear k
  apply Aa;intro K17 d
  apply Ad
  obtain ⟨v,u,h⟩:=bind_some h
  obtain ⟨F,D,q⟩:=Ao u
  have o:=Aq (f:=Nb) q
  have hs:=And.intro o hs
  refine rg [1,3,4,21,22,23] hs ?_
  apply Aa;intro K20 l
  obtain ⟨U,y,h⟩:=bind_some h
  refine rc 3 [1,3,4,5,21,22,23] hs ?_;intro K21 j
  refine Ab _ (Ur w0 _ _ _ v) (hv hs) ?_
  refine nc hs ?_
  refine Ab _ (KC w0 hT n _ _ _ (Gn v) _ y) (hv hs) ?_
  refine ne hs j ?_
  clear j
  refine rg [1,3,4,5,21,22,23,32] hs ?_
  refine Av h hs (fun hs h=>?_) (fun hs h=>?_)
  ·refine rg [2] hs ?_
   exact rt h hs b i
  refine sk [1,3,4,21,22,23] hs l ?_
  clear l
  apply Aa;intro K26 c
  apply Aa;intro K27 g
  rcases Bool.eq_false_or_eq_true (decide (0<a)) with hf28 | hf28
  ·replace h:=AO h hf28
   obtain ⟨H,h⟩:=Ac h
   obtain ⟨Q,E,G,p,h⟩:=ix Nb h
   have hs:=And.intro hf28 hs
   have hs:=And.intro p hs
   refine rl [1,3,4,21,22,23,45] hs g ?_
   clear g
   refine Av h hs (fun hs h=>?_) (fun hs h=>?_)
   ·refine rg [2] hs ?_
    exact rt h hs b i
   refine sk [1,3,4,21,22,23] hs c ?_
   clear c
   obtain ⟨K,h⟩:=Ac h
   refine rg [1,21,22,23,57] hs ?_
   refine Av h hs (fun hs h=>?_) (fun hs h=>?_)
   ·refine rg [2] hs ?_
    exact rt h hs b i
   refine sk [1,21,22,23] hs d ?_
   clear d
   obtain ⟨N,h⟩:=Ac h
   refine rl [1,21,22,23] hs (fun e s=>Vl13 ml13 e s (Nat.lt_succ_self _)) ?_
   exact ⟨(a+1),([]),Rl13,ef hs,ef hs,i,h⟩
  ·replace h:=AN h hf28
   have hs:=And.intro hf28 hs
   refine rl [1,3,4,21,22,23,45] hs g ?_
   clear g
   refine AP false ev (ef hs) (fun hb38=>by cases hb38) (fun hb38=>?_)
   refine sk [1,3,4,21,22,23] hs c ?_
   clear c
   refine rg [1,21,22,23,57] hs ?_
   refine AP false ev (ef hs) (fun hb40=>by cases hb40) (fun hb40=>?_)
   refine sk [1,21,22,23] hs d ?_
   clear d
   obtain ⟨J,h⟩:=Ac h
   refine rl [1,21,22,23] hs (fun e s=>Vl13 ml13 e s (Nat.lt_succ_self _)) ?_
   exact ⟨(a+1),([]),Rl13,ef hs,ef hs,i,h⟩
 ·clear h;rintro e st ⟨Xk10,Rk10,rfl,rfl,i,h⟩
  rw [LG] at h
  refine td O C t b i ?_
  refine rg [2] hs ?_
  exact rt h hs b i
def RE (n:Nat)  : Option Int :=
 some (0)
def Ie (n:Nat) (h:Ty):Nat→Int→Option Int
 | 0,_=>none
 | m+1,b =>
  if decide (b<(h.fields.length:Int)) then
   (Md n h b).bind fun g =>
   if !(decide (g=0)) then
    some (g)
   else
    if BR (b+1) then
     (Ie n h m) (b+1)
    else none
  else
   RE n 
def Ib (n:Nat) (g:Ty) (b:Bool):Option Int :=
 if b then
  some (4)
 else
  if (decide (g.kind=8))&&(decide (1<(g.elem.length:Int))) then
   some (3)
  else
   if decide (64<(g.fields.length:Int)) then
    some (9)
   else
    Ie n g n 0
def J6 (n:Nat) (b:Ty):Option Int :=
 if (decide (b.kind=8))&&(decide ((b.elem.length:Int)=0)) then
  Ib n b true
 else
  Ib n b ((decide (b.kind=10))&&(decide ((b.fields.length:Int)=0)))
def L1 (n:Nat) (g:Ty) (b:Bool):Option Int :=
 if b then
  some (2)
 else
  J6 n g 
def Qy (n:Nat) (b:Ty):Option Int :=
 if !(decide (1≤b.kind)&&decide (b.kind≤10)) then
  some (11)
 else
  (Cb (Il ) b.kind).bind fun g =>
  if !(decide ((Ko b g)=0)) then
   some (Ko b g)
  else
   if (decide (b.kind=4))&&(decide (0<(b.words.length:Int))) then
    (ME n b).bind fun h =>
    if !(decide (h=0)) then
     some (h)
    else
     J6 n b 
   else
    if g.bounds&&(((decide (b.max<b.min))||(decide (b.min<g.low)))||(decide (g.high<b.max))) then
     L1 n b true
    else
     L1 n b (g.scale&&(!(decide (0≤b.scale)&&decide (b.scale≤12))))
theorem ZcI (w0:World) (hT:Lib.Utf8Tabs 0 1 w0) (n:Nat) (B:List (List AV)) (Rw:List RowA) (L:List LoopA) (a0:Ty) (r:Int) (h:Qy n a0=some r) :
  ACalls Tryz.prog w0 135 [.agg (a0.cs)] ⟨B,Rw,L⟩ fun x st=>x = .val (.int .i64 r)∧st=⟨B,Rw,L⟩:=by
 rw [Qy] at h
 refine hd [.tmp 2] Tryz.func135 Tryz.ntmps135 fun M0 W0 N p o a hu g hs=>?_
 simp only [Am]
 refine rg [1] hs ?_
 apply Aa;intro K2 O
 refine rc 2 [1,11] hs ?_;intro K3 H
 refine Ab _ (QQ w0 _ _ _ a0.kind 1 10) (hv hs) ?_
 refine ne hs H ?_
 clear H
 refine Av h hs (fun hs h=>?_) (fun hs h=>?_)
 ·have l:=hs.1
  refine rg [2] hs ?_
  exact rt h hs a g
 have l:=hs.1
 refine sk [1] hs O ?_
 clear O
 apply Aa;intro K6 U
 obtain ⟨b,Y,h⟩:=bind_some h
 obtain ⟨aa,v,E⟩:=Ao Y
 have d:=Hu (f:=fun x=>(XI x).cells) 8 (fun _=>rfl) E
 have J:(Il ).length=11:=rfl
 first | rw [J] at v | simp only [List.length_cons,List.length_nil,Nat.reduceAdd,Nat.zero_add] at v
 simp only [Fp,FA,FH,FB,FC,E1,D6,DY,Fj,CO,CH,D7,D3,D5,JL] at d
 apply GI Gm [4,5] [1,3] kr (fun s=>∃ (X:List (List AV)) (rows:List RowA),s=⟨B++([a0.cs]++X),rows,L⟩) 3 (B.length+1)
 ·simp +decide only [go_sem,Nat.reduceAdd]
 ·rintro s ⟨X,rows,rfl⟩
  refine ⟨2,?_⟩
  rw [Ae];simp +decide only [go_sem,Nat.reduceAdd,DV,l,d]
  have hs:=And.intro d hs
  (repeat' apply And.intro)<;>first | refine Ab _ (YB w0 _ _ _ ) (hv hs) ?_ | exact cl
  rw [Ae];simp +decide only [go_sem,Nat.reduceAdd,l,d]
  (repeat' apply And.intro)<;>first | rfl | exact cl
 ·refine Good.mk [4] kr ⟨[],_,by first | rfl | simp only [List.append_nil,List.nil_append]⟩ ?_ ?_
  ·intro h;exact absurd h (by decide)
  ·intro i hi;simp only [List.mem_cons,List.not_mem_nil,or_false] at hi
   subst hi
   ·apply BF rfl rfl ev
    ·simp +decide only [go_sem,Nat.reduceAdd,DK,l,d]
     (repeat' apply And.intro)<;>first | rfl | exact cl
    ·simp +decide only [go_sem,Nat.reduceAdd,l,d]
     refine Good.mk [5] kr ⟨_,_,by first | rfl | simp only [List.append_nil,List.nil_append]⟩ ?_ ?_
     ·intro h;exact absurd h (by decide)
     ·intro i hi;simp only [List.mem_cons,List.not_mem_nil,or_false] at hi
      subst hi
      ·apply BF rfl rfl ev
       ·simp +decide only [go_sem,Nat.reduceAdd,DK,l,d]
        (repeat' apply And.intro)<;>first | rfl | exact cl
       ·simp +decide only [go_sem,Nat.reduceAdd,l,d]
        refine Good.mk [] kr ⟨_,_,by first | rfl | simp only [List.append_nil,List.nil_append]⟩ ?_ ?_
        ·intro _;apply B2 [1,3];first | (simp +decide only [go_sem,Nat.reduceAdd,l,d];done) | (simp +decide only [go_sem,Nat.reduceAdd,l,d];rfl)
        ·intro i hi;cases hi
 simp +decide only [go_sem,Nat.reduceAdd,l,d]
 (repeat' apply And.intro)<;>first | refine U _ _ ?_ | exact cl
 clear U
 apply Aa;intro K8 V
 have hs:=And.intro d hs
 refine rc 2 [1,3,4] hs ?_;intro K9 Q
 refine Ab _ (Zz w0 _ _ _ a0 b) (hv hs) ?_
 refine ne hs Q ?_
 clear Q
 refine rg [1,3,4,20] hs ?_
 refine Av h hs (fun hs h=>?_) (fun hs h=>?_)
 ·refine rg [2] hs ?_
  exact rt h hs a g
 refine sk [1,3] hs V ?_
 clear V
 refine Ak (fun e st=>Ck e st B Rw L [(1,true,.box B.length 0)] [a0.cs,.val (.string b.name)::(.val (.int .i64 b.low)::(.val (.int .i64 b.high)::(.val (.bool b.bounds)::(.val (.bool b.scale)::(.val (.bool b.text)::(.val (.bool b.list)::([.val (.bool b.fields)])))))))] [] (J6 n a0  = some r)) ?_ ?_
 ·intro K15 w
  apply Ad
  refine rg [1,3,22] hs ?_
  refine Av h hs (fun hs h=>?_) (fun hs h=>?_)
  ·obtain ⟨ab,F,h⟩:=bind_some h
   refine rc 2 [1,5] hs ?_;intro K18 y
   refine Ab _ (ZO w0 hT n _ _ _ a0 _ F) (hv hs) ?_
   refine ne hs y ?_
   clear y
   refine rg [1,5,35] hs ?_
   refine Av h hs (fun hs h=>?_) (fun hs h=>?_)
   ·refine rg [2] hs ?_
    exact rt h hs a g
   refine sk [1] hs w ?_
   exact ⟨([]),Rw,ef hs,ef hs,g,h⟩
  refine Ak (fun e st=>∃ (k:Bool),Ck e st B Rw L [(1,true,.box B.length 0),(37,true,.val (.bool k))] [a0.cs,.val (.string b.name)::(.val (.int .i64 b.low)::(.val (.int .i64 b.high)::(.val (.bool b.bounds)::(.val (.bool b.scale)::(.val (.bool b.text)::(.val (.bool b.list)::([.val (.bool b.fields)])))))))] [] (L1 n a0 k=some r)) ?_ ?_
  ·intro K25 C
   refine rg [1,3,37] hs ?_
   refine Av h hs (fun hs h=>?_) (fun hs h=>?_)
   ·refine sk [1,37] hs C ?_
    exact ⟨true,([]),Rw,ef hs,ef hs,g,h⟩
   refine rk 2 [1,37] hs ?_
   refine DI _ (fun _=>QQ w0 _ _ _ a0.scale 0 12) (hv hs) ?_
   refine ne hs C ?_
   exact ⟨(b.scale&&(!(decide (0≤a0.scale)&&decide (a0.scale≤12)))),([]),Rw,ef hs,ef hs,g,h⟩
  ·clear h;rintro e st ⟨k,Xk24,Rk24,rfl,rfl,g,h⟩
   rw [L1] at h
   refine td N p o a g ?_
   refine Av h hs (fun hs h=>?_) (fun hs h=>?_)
   ·refine rg [2] hs ?_
    exact rt h hs a g
   refine sk [1] hs w ?_
   exact ⟨([]),Rk24,ef hs,ef hs,g,h⟩
 ·clear h;rintro e st ⟨Xk14,Rk14,rfl,rfl,g,h⟩
  rw [J6] at h
  refine td N p o a g ?_
  apply Aa;intro K30 z
  apply Ad
  refine Ak (fun e st=>∃ (j:Bool),Ck e st B Rw L [(1,true,.box B.length 0),(69,true,.val (.bool j))] [a0.cs,.val (.string b.name)::(.val (.int .i64 b.low)::(.val (.int .i64 b.high)::(.val (.bool b.bounds)::(.val (.bool b.scale)::(.val (.bool b.text)::(.val (.bool b.list)::([.val (.bool b.fields)])))))))] [] (Ib n a0 j=some r)) ?_ ?_
  ·intro K33 D
   refine rg [1,69] hs ?_
   refine Av h hs (fun hs h=>?_) (fun hs h=>?_)
   ·refine sk [1,69] hs D ?_
    exact ⟨true,([]),Rk14,ef hs,ef hs,g,h⟩
   refine rl [1,69] hs D ?_
   exact ⟨((decide (a0.kind=10))&&(decide ((a0.fields.length:Int)=0))),([]),Rk14,ef hs,ef hs,g,h⟩
  ·clear h;rintro e st ⟨j,Xk32,Rk32,rfl,rfl,g,h⟩
   rw [Ib] at h
   refine td N p o a g ?_
   refine Av h hs (fun hs h=>?_) (fun hs h=>?_)
   ·refine rg [2] hs ?_
    exact rt h hs a g
   refine rg [1,88] hs ?_
   refine Av h hs (fun hs h=>?_) (fun hs h=>?_)
   ·refine rg [2] hs ?_
    exact rt h hs a g
   refine rg [1,98] hs ?_
   refine Av h hs (fun hs h=>?_) (fun hs h=>?_)
   ·refine rg [2] hs ?_
    exact rt h hs a g
   refine sk [1] hs z ?_
   clear z
   refine Ak (fun e st=>Ck e st B Rw L [] [a0.cs,.val (.string b.name)::(.val (.int .i64 b.low)::(.val (.int .i64 b.high)::(.val (.bool b.bounds)::(.val (.bool b.scale)::(.val (.bool b.text)::(.val (.bool b.list)::([.val (.bool b.fields)])))))))] [] (RE n  = some r)) ?_ ?_
   ·intro K46 K
    refine rg [1,105,106] hs ?_
    apply Ad
    refine Ap (fun m e st=>∃ (c:Int),Ck e st B Rw L [(1,true,.box B.length 0),(105,true,.val (.int .i64 (a0.fields.length:Int))),(106,true,.val (.int .i64 c))] [a0.cs,.val (.string b.name)::(.val (.int .i64 b.low)::(.val (.int .i64 b.high)::(.val (.bool b.bounds)::(.val (.bool b.scale)::(.val (.bool b.text)::(.val (.bool b.list)::([.val (.bool b.fields)])))))))] [] (Ie n a0 m c=some r)) n ⟨0,([]),Rk32,ef hs,ef hs,g,h⟩ ?_
    rintro ml48 e st ⟨c,Xl48,Rl48,rfl,rfl,g,h⟩ Ul48 Vl48
    cases ml48 with
    | zero=>cases h
    | succ ml48 =>
    rw [Ie] at h
    refine td N p o a g ?_
    refine rg [1,105,106,107] hs ?_
    apply Aa;intro K50 t
    refine Av h hs (fun hs h=>?_) (fun hs h=>?_)
    rotate_left
    ·refine sx [] hs K ?_
     exact ⟨([]),Rl48,ef hs,ef hs,g,h⟩
    refine sk [1,105,106] hs t ?_
    clear t
    apply Aa;intro K52 q
    apply Ad
    refine rg [1,6,105,106] hs ?_
    obtain ⟨ad,G,h⟩:=bind_some h
    refine rc 2 [1,7,105,106] hs ?_;intro K54 u
    refine Ab _ (ZM w0 n _ _ _ a0 c _ G) (hv hs) ?_
    refine ne hs u ?_
    clear u
    refine rg [1,7,105,106,113] hs ?_
    refine Av h hs (fun hs h=>?_) (fun hs h=>?_)
    ·refine rg [2] hs ?_
     exact rt h hs a g
    refine sk [1,105,106] hs q ?_
    clear q
    obtain ⟨Z,h⟩:=Ac h
    refine rl [1,105,106] hs (fun e s=>Vl48 ml48 e s (Nat.lt_succ_self _)) ?_
    exact ⟨(c+1),([]),Rl48,ef hs,ef hs,g,h⟩
   ·clear h;rintro e st ⟨Xk45,Rk45,rfl,rfl,g,h⟩
    rw [RE] at h
    refine td N p o a g ?_
    refine rg [2] hs ?_
    exact rt h hs a g
def N3 (rec:Ty→Int→Int→Option (Int × Int)) (n:Nat)  (pla2_k18:Int):Option (Int × Int) :=
 some ((0,pla2_k18))
def C7 (rec:Ty→Int→Int→Option (Int × Int)) (n:Nat) (q:Ty) (y:Int) (h:(List Ty)):Nat→Int→Int→Option (Int × Int)
 | 0,_,_=>none
 | m+1,b,pla2_l22 =>
  if decide (b<(h.length:Int)) then
   (Cb h b).bind fun x28 =>
   if BR (y+1) then
    (rec x28 (y+1) pla2_l22).bind fun g =>
    if !(decide (g.1=0)) then
     some ((g.1,g.2))
    else
     if decide (q.kind=9) then
      (Cb q.fields b).bind fun s =>
      if decide (s.2.2.1=3) then
       (Cb s.2.2.2.2 0).bind fun x40 =>
       (Jy n x28 x40).bind fun y41 =>
       if !y41 then
        some ((18,g.2))
       else
        if BR (b+1) then
         (C7 rec n q y h m) (b+1) g.2
        else none
      else
       if BR (b+1) then
        (C7 rec n q y h m) (b+1) g.2
       else none
     else
      if BR (b+1) then
       (C7 rec n q y h m) (b+1) g.2
      else none
   else none
  else
   N3 rec n pla2_l22
def ON (rec:Ty→Int→Int→Option (Int × Int)) (n:Nat) (q:Ty) (s:Int) (b:Int):Option (Int × Int) :=
 if decide (b=0) then
  some ((9,b))
 else
  if decide (8<s) then
   some ((23,b))
  else
   if BR (b-1) then
    (Qy n q).bind fun g =>
    if !(decide (g=0)) then
     some ((g,b-1))
    else
     (MP n q).bind fun h =>
     C7 rec n q s h n 0 (b-1)
   else none
def IX:Nat→Ty→Int→Int→Option (Int × Int)
 | 0,_,_,_=>none
 | n+1,g,b,h=>ON (IX n) n g b h
def Re (w0:World) (F:Ty→Int→Int→Option (Int × Int)):Prop:=∀ (B:List (List AV)) (Rw:List RowA) (L:List LoopA) (g:Ty) (b:Int) (la2:Nat) (h:Int) (hla2:B[la2]? = some ([.val (.int .i64 h)])) (r:Int × Int),F g b h=some r→ACalls Tryz.prog w0 80 [.agg (g.cs),.val (.int .i64 b),.box la2 0] ⟨B,Rw,L⟩ fun x st=>x = .val (.int .i64 r.1)∧st=⟨(B.set la2 [.val (.int .i64 r.2)]),Rw,L⟩
theorem WO (w0:World) (hT:Lib.Utf8Tabs 0 1 w0) (rec:Ty→Int→Int→Option (Int × Int)) (ih:Re w0 rec) (n:Nat):Re w0 (ON rec n):=by
 intro B Rw L a0 a1 C a2 b r h
 rw [ON] at h
 refine hd [.tmp 6] Tryz.func80 Tryz.ntmps80 fun M0 W0 hN af U a hu x hs=>?_
 simp only [Am]
 have ag:=(List.getElem?_eq_some_iff.1 b).1
 have hs:=And.intro (Af b) hs
 refine rg [1,2,3] hs ?_
 apply Aa;intro K2 ad
 apply Ad
 refine rg [1,2,3,11] hs ?_
 refine Av h hs (fun hs h=>?_) (fun hs h=>?_)
 ·have k:=hs.1
  refine rg [6] hs ?_
  exact rt h hs a x
 have k:=hs.1
 refine rg [1,2,3,16] hs ?_
 refine Av h hs (fun hs h=>?_) (fun hs h=>?_)
 ·have l:=hs.1
  refine rg [6] hs ?_
  exact rt h hs a x
 have l:=hs.1
 refine sk [1,2,3] hs ad ?_
 clear ad
 obtain ⟨ar,h⟩:=Ac h
 refine rg [1,2,3] hs ?_
 apply Aa;intro K11 F
 obtain ⟨ay,V,h⟩:=bind_some h
 refine rc 2 [1,2,3,7] hs ?_;intro K12 D
 refine Ab _ (ZcI w0 hT n _ _ _ a0 _ V) (hv hs) ?_
 refine ne hs D ?_
 clear D
 refine rg [1,2,3,7,27] hs ?_
 refine Av h hs (fun hs h=>?_) (fun hs h=>?_)
 ·have g:=hs.1
  refine rg [6] hs ?_
  apply AW;simp +decide only [go_sem,Nat.reduceAdd,Af b,k,l,g]
  have hgt:=Option.some.inj h;subst hgt
  first | refine DC (Ah a ev) HI x.pre ev ⟨?_,rfl⟩ | refine E6 (Ah a ev) HI x.pre ev ⟨?_,rfl⟩
  first | rfl | (simp +decide only [go_sem,Nat.reduceAdd,Af b,k,l,g];done) | (simp +decide only [go_sem,Nat.reduceAdd,Vl.cs,Ty.cs,Af b,k,l,g];done)
 have g:=hs.1
 refine sk [1,2,3] hs F ?_
 clear F
 refine Ak (fun e st=>∃ (j:Int) (Xk18:List (List AV)) (Rk18:List RowA),e=[]∧st=⟨(B.set C ([.val (.int .i64 j)]))++([a0.cs]++Xk18),Rk18,L⟩∧Owns Rw Rk18 []∧N3 rec n j=some r) ?_ ?_
 ·intro K19 ab
  obtain ⟨N,aa,h⟩:=bind_some h
  refine rc 2 [1,2,3,30,31,32] hs ?_;intro K20 H
  refine Ab _ (Zak w0 n _ _ _ a0 _ aa) (hv hs) ?_
  refine ne hs H ?_
  clear H
  apply Ad
  refine Ap (fun m e st=>∃ (d:Int) (c:Int) (Xl22:List (List AV)) (Rl22:List RowA),e=[(1,true,.val (.int .i64 a1)),(2,true,.box C 0),(3,true,.box B.length 0),(30,true,.list (N.map HK) .none),(31,true,.val (.int .i64 (N.length:Int))),(32,true,.val (.int .i64 d))]∧st=⟨(B.set C ([.val (.int .i64 c)]))++([a0.cs]++Xl22),Rl22,L⟩∧Owns Rw Rl22 []∧C7 rec n a0 a1 N m d c=some r) n ⟨0,(a2-1),([]),Rw,ef hs,ef hs,x,h⟩ ?_
  rintro ml22 e st ⟨d,c,Xl22,Rl22,rfl,rfl,x,h⟩ Ul22 Vl22
  cases ml22 with
  | zero=>cases h
  | succ ml22 =>
  rw [C7] at h
  refine AH hN af U HI (Ah a ev) x ow ow ?_
  refine rg [1,2,3,30,31,32,33] hs ?_
  apply Aa;intro K24 G
  refine Av h hs (fun hs h=>?_) (fun hs h=>?_)
  rotate_left
  ·have o:=hs.1
   refine sx [] hs ab ?_
   exact ⟨c,([]),Rl22,ef hs,ef hs,x,h⟩
  have o:=hs.1
  refine sk [1,2,3,30,31,32] hs G ?_
  clear G
  apply Aa;intro K26 u
  apply Ad
  obtain ⟨z,Y,h⟩:=bind_some h
  obtain ⟨ai,am,K⟩:=Ao Y
  have i:=Aq (f:=HK) K
  have hs:=And.intro i hs
  refine rg [1,2,3,8,9,30,31,32] hs ?_
  apply Aa;intro K29 E
  obtain ⟨au,h⟩:=Ac h
  obtain ⟨O,Q,h⟩:=bind_some h
  refine rc 2 [1,2,3,8,9,10,30,31,32] hs ?_;intro K30 J
  refine Bo _ (ih _ _ _ z (a1+1) C c (ef hs) _ Q) (hv hs) ?_;rintro _ _ ⟨rfl,rfl⟩
  refine ne hs J ?_
  clear J
  refine rg [1,2,3,8,9,10,30,31,32,43] hs ?_
  refine Av h hs (fun hs h=>?_) (fun hs h=>?_)
  ·have p:=hs.1
   refine rg [6] hs ?_
   apply AW;simp +decide only [go_sem,Nat.reduceAdd,Af b,k,l,g,o,i,p]
   have hgt:=Option.some.inj h;subst hgt
   first | refine DC (Ah a ev) HI x.pre ev ⟨?_,rfl⟩ | refine E6 (Ah a ev) HI x.pre ev ⟨?_,rfl⟩
   first | rfl | (simp +decide only [go_sem,Nat.reduceAdd,Af b,k,l,g,o,i,p];done) | (simp +decide only [go_sem,Nat.reduceAdd,Vl.cs,Ty.cs,Af b,k,l,g,o,i,p];done)
  have p:=hs.1
  refine sk [1,2,3,8,9,30,31,32] hs E ?_
  clear E
  apply Aa;intro K36 v
  rcases Bool.eq_false_or_eq_true (decide (a0.kind=9)) with hf37 | hf37
  ·replace h:=AO h hf37
   obtain ⟨ae,aj,ak,t,h⟩:=ix Cd h
   rcases Bool.eq_false_or_eq_true (decide (ae.2.2.1=3)) with hf39 | hf39
   ·replace h:=AO h hf39
    obtain ⟨ap,ah,ao,q,h⟩:=ix A1 h
    have w:(ae.2.2.2.2.map A1).getD 0 .junk=_:=q
    obtain ⟨ax,Z,h⟩:=bind_some h
    have hs:=And.intro hf37 hs
    have hs:=And.intro t hs
    have hs:=And.intro hf39 hs
    have hs:=And.intro q hs
    have hs:=And.intro w hs
    refine dk 25 2 1 [1,2,3,30,31,32,69] hs Gm ?_
    refine Ab _ (W7 w0 hT n _ _ _ z ap _ Z) (hv hs) ?_
    refine dn hs v ?_
    clear v
    refine Av h hs (fun hs h=>?_) (fun hs h=>?_)
    ·have y:=hs.1
     refine rg [6] hs ?_
     apply AW;simp +decide only [go_sem,Nat.reduceAdd,Af b,k,l,g,o,i,p,hf37,t,hf39,q,w,y]
     have hgt:=Option.some.inj h;subst hgt
     first | refine DC (Ah a ev) HI x.pre ev ⟨?_,rfl⟩ | refine E6 (Ah a ev) HI x.pre ev ⟨?_,rfl⟩
     first | rfl | (simp +decide only [go_sem,Nat.reduceAdd,Af b,k,l,g,o,i,p,hf37,t,hf39,q,w,y];done) | (simp +decide only [go_sem,Nat.reduceAdd,Vl.cs,Ty.cs,Af b,k,l,g,o,i,p,hf37,t,hf39,q,w,y];done)
    have y:=hs.1
    refine sk [1,2,3,30,31,32] hs u ?_
    clear u
    obtain ⟨aq,h⟩:=Ac h
    refine rl [1,2,3,30,31,32] hs (fun e s=>Vl22 ml22 e s (Nat.lt_succ_self _)) ?_
    exact ⟨(d+1),O.2,([z.cs]),Rl22,ef hs,ef hs,x,h⟩
   ·replace h:=AN h hf39
    have hs:=And.intro hf37 hs
    have hs:=And.intro t hs
    have hs:=And.intro hf39 hs
    refine dk 25 2 1 [1,2,3,30,31,32,69] hs Gm ?_
    refine As ?_
    refine dn hs v ?_
    clear v
    refine AP false ev (ef hs) (fun hb45=>by cases hb45) (fun hb45=>?_)
    refine sk [1,2,3,30,31,32] hs u ?_
    clear u
    obtain ⟨av,h⟩:=Ac h
    refine rl [1,2,3,30,31,32] hs (fun e s=>Vl22 ml22 e s (Nat.lt_succ_self _)) ?_
    exact ⟨(d+1),O.2,([z.cs]),Rl22,ef hs,ef hs,x,h⟩
  ·replace h:=AN h hf37
   have hs:=And.intro hf37 hs
   refine dk 25 2 1 [1,2,3,30,31,32,69] hs Gm ?_
   refine As ?_
   refine dn hs v ?_
   clear v
   refine AP false ev (ef hs) (fun hb47=>by cases hb47) (fun hb47=>?_)
   refine sk [1,2,3,30,31,32] hs u ?_
   clear u
   obtain ⟨aw,h⟩:=Ac h
   refine rl [1,2,3,30,31,32] hs (fun e s=>Vl22 ml22 e s (Nat.lt_succ_self _)) ?_
   exact ⟨(d+1),O.2,([z.cs]),Rl22,ef hs,ef hs,x,h⟩
 ·clear h;rintro e st ⟨j,Xk18,Rk18,rfl,rfl,x,h⟩
  rw [N3] at h
  refine AH hN af U HI (Ah a ev) x ow ow ?_
  refine rg [6] hs ?_
  apply AW;simp +decide only [go_sem,Nat.reduceAdd,Af b,k,l,g]
  have hgt:=Option.some.inj h;subst hgt
  first | refine DC (Ah a ev) HI x.pre ev ⟨?_,rfl⟩ | refine E6 (Ah a ev) HI x.pre ev ⟨?_,rfl⟩
  first | rfl | (simp +decide only [go_sem,Nat.reduceAdd,Af b,k,l,g];done) | (simp +decide only [go_sem,Nat.reduceAdd,Vl.cs,Ty.cs,Af b,k,l,g];done)
theorem Ug (w0:World) (hT:Lib.Utf8Tabs 0 1 w0):∀ n:Nat,Re w0 (IX n)
 | 0=>fun _ _ _ _ _ _ _ _ _ h=>(nomatch h)
 | n+1=>WO w0 hT (IX n) (Ug w0 hT n) n
def Ic  : List (Nat × Vl)→Int→Option Int
 | [],b1_r6 =>
  some (b1_r6)
 | p_r6::rest,b1_r6 =>
  if BR (b1_r6+1) then
   (Ic  rest) (b1_r6+1)
  else none
def MI (b:Vl):Option Int :=
 if b.depth<4611686018427387904∧b.wide=true then
  Ic  (E8 1 b) 0
 else none
theorem VM (w0:World) (B:List (List AV)) (Rw:List RowA) (L:List LoopA) (a0:Vl) (r:Int) (h:MI a0=some r) :
  ACalls Tryz.prog w0 77 [.agg (a0.cs)] ⟨B,Rw,L⟩ fun x st=>x = .val (.int .i64 r)∧st=⟨B,Rw,L⟩:=by
 rw [MI] at h
 refine hd [.tmp 2] Tryz.func77 Tryz.ntmps77 fun M0 W0 z t j b J c hs=>?_
 simp only [Am]
 refine rg [1] hs ?_
 refine rg [1,3] hs ?_
 apply Aa;intro K3 e
 refine rc 2 [3,5] hs ?_;intro K4 d
 refine Bo _ (Oo w0 _ _ _ a0) (hv hs) ?_;rintro _ _ ⟨rfl,rfl⟩
 refine ne hs d ?_
 clear d
 apply Ad
 obtain ⟨p,h⟩:=Ac h
 refine Q2 (IR a0) (fun st=>st.boxes[(B.length+2)]? = some a0.cs) (fun i st=>∃ (a:Int) (Rr6:List RowA),st=⟨B++([a0.cs,[.val (.int .i64 a)],a0.cs]),Rr6,L⟩∧Owns Rw Rr6 []∧Ic  ((E8 1 a0).drop i) a=some r) (fun _ _=>False) ev ev (LO w0 a0 p _) (fun x k=>PN a0 x k) (by decide) ?_ ⟨0,Rw,ef hs,c,h⟩ (fun _ _ h=>h.elim) ?_ ?_ ?_
 ·rintro i st n ⟨a,Rr6,rfl,c,h⟩ _ _;simp +decide [St.push]
 ·rintro i G ⟨XB,XR,XL⟩ x M1 W1 l n D hX w m g k C K v
  obtain ⟨u,q,rfl,E⟩:=P6 a0 i x k
  (try simp only at hX)
  subst hX
  obtain ⟨a,Rr6,rfl,c,h⟩:=w
  rw [UH q,Ic] at h
  have f:=c
  simp only [St.ext,St.push,List.append_assoc,List.append_nil]
  refine DO (Do [3] _) ?_ (Ba _ _)
  apply Bd;simp +decide only [go_sem,Nat.reduceAdd]
  (repeat' apply And.intro)<;>first | refine v _ _ (by simp [St.ext,St.push]) (fun H o=>?_) | exact cl
  clear v
  dsimp only [St.ext,St.push]
  apply Ad
  obtain ⟨y,h⟩:=Ac h
  apply Ag 1 [3]
  rw [Ae];simp +decide only [go_sem,Nat.reduceAdd]
  (repeat' apply And.intro)<;>first | refine o _ _ _ ⟨⟨B++[a0.cs,[.val (.int .i64 (a+1))],a0.cs],Rr6,L⟩,[],by first | rfl | (simp only [List.append_assoc,List.append_nil,List.cons_append,List.nil_append];done),⟨by simp,by first | exact Nat.le_refl _ | (have:=c.len;simp;omega),rfl⟩,rfl,⟨(a+1),Rr6,ef hs,c,h⟩,?_⟩ | exact cl
  exact .inl rfl
 ·rintro s n ⟨XB,XR,XL⟩ hXR ⟨a,Rr6,rfl,c,h⟩ _ _
  simp only at hXR
  subst hXR
  rw [List.drop_eq_nil_of_le (by rw [LK];exact Nat.le_refl _),Ic] at h
  simp only [St.ext,St.push,List.append_assoc,List.append_nil]
  (repeat' apply And.intro)<;>first | refine e _ _ ?_ | exact cl
  clear e
  refine RJ (bs:=[a0.cs,[.val (.int .i64 a)],a0.cs]) z t j rfl b c ow ow ?_
  refine rg [2] hs ?_
  exact rt h hs b c
 ·rintro F s n X hX h;exact h.elim
def Eb (rec:Ty→Option Int) (n:Nat) (g:Int→Int→Option Int) (b:Int) (h:Int):Option Int :=
 if BR (b+1) then
  g h (b+1)
 else none
def Eu (rec:Ty→Option Int) (n:Nat)  (b:Int):Option Int :=
 some ((if 4097<b then 4097 else b))
def BP (rec:Ty→Option Int) (n:Nat) (s:Ty):Nat→Int→Int→Option Int
 | 0,_,_=>none
 | m+1,g,b =>
  if decide (b<(s.fields.length:Int)) then
   (Cb s.fields b).bind fun h =>
   if decide (h.2.2.1=1) then
    (rec h.2.2.2.1).bind fun q =>
    if BR (g+q) then
     Eb rec n (BP rec n s m) b (g+q)
    else none
   else
    if decide (h.2.2.1=3) then
     (Cb h.2.2.2.2 0).bind fun x39 =>
     (MI x39).bind fun y =>
     if BR (g+y) then
      Eb rec n (BP rec n s m) b (g+y)
     else none
    else
     Eb rec n (BP rec n s m) b g
  else
   Eu rec n g
def Jk (rec:Ty→Option Int) (n:Nat) (b:Ty):Option Int :=
 if decide (b.kind=8) then
  if decide (0<b.min) then
   (Cb b.elem 0).bind fun q =>
   (rec q).bind fun g =>
   if BR (b.min*g) then
    if BR (1+(b.min*g)) then
     Eu rec n (1+(b.min*g))
    else none
   else none
  else
   Eu rec n 1
 else
  if decide (b.kind=10) then
   (Cb b.fields 0).bind fun s =>
   (rec s.2.2.2.1).bind fun h =>
   if BR (1+h) then
    Eu rec n (1+h)
   else none
  else
   if decide (b.kind=9) then
    BP rec n b n 1 0
   else
    Eu rec n 1
def DT:Nat→Ty→Option Int
 | 0,_=>none
 | n+1,b=>Jk (DT n) n b
def LM (w0:World) (F:Ty→Option Int):Prop:=∀ (B:List (List AV)) (Rw:List RowA) (L:List LoopA) (b:Ty) (r:Int),F b=some r→ACalls Tryz.prog w0 136 [.agg (b.cs)] ⟨B,Rw,L⟩ fun x st=>x = .val (.int .i64 r)∧st=⟨B,Rw,L⟩
theorem RH (w0:World) (rec:Ty→Option Int) (ih:LM w0 rec) (n:Nat):LM w0 (Jk rec n):=by
 intro B Rw L a0 r h
 rw [Jk] at h
 refine hd [.tmp 2] Tryz.func136 Tryz.ntmps136 fun M0 W0 hN C v g hu i hs=>?_
 simp only [Am]
 refine rg [1] hs ?_
 refine rg [1,3] hs ?_
 refine Ak (fun e st=>∃ (j:Int),Ck e st B Rw L [(3,true,.val (.int .i64 j))] [a0.cs] [] (Eu rec n j=some r)) ?_ ?_
 ·intro K5 q
  refine rg [1,3,7] hs ?_
  apply Ad
  refine rg [1,3,7,8] hs ?_
  refine Av h hs (fun hs h=>?_) (fun hs h=>?_)
  ·refine rg [1,3,12] hs ?_
   refine Av h hs (fun hs h=>?_) (fun hs h=>?_)
   ·obtain ⟨O,aa,J,k,h⟩:=ix HK h
    have y:(a0.elem.map HK).getD 0 .junk=_:=k
    obtain ⟨ab,D,h⟩:=bind_some h
    obtain ⟨ao,h⟩:=Ac h
    obtain ⟨ak,h⟩:=Ac h
    have hs:=And.intro k hs
    have hs:=And.intro y hs
    refine dk 10 2 1 [3] hs Gm ?_
    refine Ab _ (ih _ _ _ O _ D) (hv hs) ?_
    refine dn hs q ?_
    exact ⟨(1+(a0.min*ab)),([]),Rw,ef hs,ef hs,i,h⟩
   refine sk [3] hs q ?_
   exact ⟨1,([]),Rw,ef hs,ef hs,i,h⟩
  refine rg [1,3,7,23] hs ?_
  refine Av h hs (fun hs h=>?_) (fun hs h=>?_)
  ·obtain ⟨Y,K,Z,l,h⟩:=ix Cd h
   have x:(a0.fields.map Cd).getD 0 .junk=_:=l
   obtain ⟨af,G,h⟩:=bind_some h
   obtain ⟨aj,h⟩:=Ac h
   have hs:=And.intro l hs
   have hs:=And.intro x hs
   refine rk 2 [3] hs ?_
   refine Ab _ (ih _ _ _ Y.2.2.2.1 _ G) (hv hs) ?_
   refine ne hs q ?_
   exact ⟨(1+af),([]),Rw,ef hs,ef hs,i,h⟩
  refine rg [1,3,33] hs ?_
  refine Av h hs (fun hs h=>?_) (fun hs h=>?_)
  ·refine rg [3,36,37,38] hs ?_
   apply Ad
   refine Ap (fun m e st=>∃ (b:Int) (a:Int),Ck e st B Rw L [(3,true,.val (.int .i64 b)),(36,true,.list (a0.fields.map Cd) .none),(37,true,.val (.int .i64 (a0.fields.length:Int))),(38,true,.val (.int .i64 a))] [a0.cs] [] (BP rec n a0 m b a=some r)) n ⟨1,0,([]),Rw,ef hs,ef hs,i,h⟩ ?_
   rintro ml23 e st ⟨b,a,Xl23,Rl23,rfl,rfl,i,h⟩ Ul23 Vl23
   cases ml23 with
   | zero=>cases h
   | succ ml23 =>
   rw [BP] at h
   refine td hN C v g i ?_
   refine rg [3,36,37,38,39] hs ?_
   apply Aa;intro K25 t
   refine Av h hs (fun hs h=>?_) (fun hs h=>?_)
   rotate_left
   ·refine sx [3] hs q ?_
    exact ⟨b,([]),Rl23,ef hs,ef hs,i,h⟩
   refine sk [3,36,37,38] hs t ?_
   clear t
   refine Ak (fun e st=>∃ (d:Int),Ck e st B Rw L [(3,true,.val (.int .i64 d)),(36,true,.list (a0.fields.map Cd) .none),(37,true,.val (.int .i64 (a0.fields.length:Int))),(38,true,.val (.int .i64 a))] [a0.cs] [] (Eb rec n (BP rec n a0 ml23) a d=some r)) ?_ ?_
   ·intro K29 o
    apply Ad
    obtain ⟨c,F,h⟩:=bind_some h
    obtain ⟨ae,ag,u⟩:=Ao F
    have z:=Aq (f:=Cd) u
    have hs:=And.intro z hs
    refine rg [3,5,36,37,38] hs ?_
    refine rg [3,5,36,37,38,43] hs ?_
    apply Ad
    refine rg [3,5,36,37,38,43,44] hs ?_
    refine Av h hs (fun hs h=>?_) (fun hs h=>?_)
    ·obtain ⟨N,H,h⟩:=bind_some h
     obtain ⟨am,h⟩:=Ac h
     refine rk 2 [3,36,37,38] hs ?_
     refine Ab _ (ih _ _ _ c.2.2.2.1 _ H) (hv hs) ?_
     refine ne hs o ?_
     exact ⟨(b+N),([.val (.int .i64 c.1)::(.val (.string c.2.1)::(.val (.int .i64 c.2.2.1)::((c.2.2.2.1.cs)++([.list (c.2.2.2.2.map A1) .none]))))]),Rl23,ef hs,ef hs,i,h⟩
    refine rg [3,5,36,37,38,51] hs ?_
    refine Av h hs (fun hs h=>?_) (fun hs h=>?_)
    ·obtain ⟨ad,U,Q,p,h⟩:=ix A1 h
     have w:(c.2.2.2.2.map A1).getD 0 .junk=_:=p
     obtain ⟨V,E,h⟩:=bind_some h
     obtain ⟨ah,h⟩:=Ac h
     have hs:=And.intro p hs
     have hs:=And.intro w hs
     refine rk 2 [3,36,37,38] hs ?_
     refine Ab _ (VM w0 _ _ _ ad _ E) (hv hs) ?_
     refine ne hs o ?_
     exact ⟨(b+V),([.val (.int .i64 c.1)::(.val (.string c.2.1)::(.val (.int .i64 c.2.2.1)::((c.2.2.2.1.cs)++([.list (c.2.2.2.2.map A1) .none]))))]),Rl23,ef hs,ef hs,i,h⟩
    refine sk [3,36,37,38] hs o ?_
    exact ⟨b,([.val (.int .i64 c.1)::(.val (.string c.2.1)::(.val (.int .i64 c.2.2.1)::((c.2.2.2.1.cs)++([.list (c.2.2.2.2.map A1) .none]))))]),Rl23,ef hs,ef hs,i,h⟩
   ·clear h;rintro e st ⟨d,Xk28,Rk28,rfl,rfl,i,h⟩
    rw [Eb] at h
    refine td hN C v g i ?_
    obtain ⟨ai,h⟩:=Ac h
    refine rl [3,36,37,38] hs (fun e s=>Vl23 ml23 e s (Nat.lt_succ_self _)) ?_
    exact ⟨d,(a+1),([]),Rk28,ef hs,ef hs,i,h⟩
  refine sk [3] hs q ?_
  exact ⟨1,([]),Rw,ef hs,ef hs,i,h⟩
 ·clear h;rintro e st ⟨j,Xk4,Rk4,rfl,rfl,i,h⟩
  rw [Eu] at h
  refine td hN C v g i ?_
  refine rg [2] hs ?_
  exact rt h hs g i
theorem OI (w0:World):∀ n:Nat,LM w0 (DT n)
 | 0=>fun _ _ _ _ _ h=>(nomatch h)
 | n+1=>RH w0 (DT n) (OI w0 n) n
def HO (rec:Ty→Option Int) (n:Nat)  (b:Int):Option Int :=
 some (b)
def CZ (rec:Ty→Option Int) (n:Nat) (q:Ty):Nat→Int→Int→Option Int
 | 0,_,_=>none
 | m+1,g,b =>
  if decide (b<(q.fields.length:Int)) then
   (Cb q.fields b).bind fun s =>
   (rec s.2.2.2.1).bind fun h =>
   if BR (b+1) then
    (CZ rec n q m) ((if g<h then h else g)) (b+1)
   else none
  else
   HO rec n g
def It (rec:Ty→Option Int) (n:Nat) (g:Ty) (b:Int):Option Int :=
 CZ rec n g n b 0
def Dk (rec:Ty→Option Int) (n:Nat) (q:Ty):Nat→Int→Int→Option Int
 | 0,_,_=>none
 | m+1,g,b =>
  if decide (b<(q.elem.length:Int)) then
   (Cb q.elem b).bind fun s =>
   (rec s).bind fun h =>
   if BR (b+1) then
    (Dk rec n q m) ((if g<h then h else g)) (b+1)
   else none
  else
   It rec n q g
def Hy (rec:Ty→Option Int) (n:Nat) (b:Ty):Option Int :=
 (DT n b).bind fun g =>
 Dk rec n b n g 0
def C6:Nat→Ty→Option Int
 | 0,_=>none
 | n+1,b=>Hy (C6 n) n b
def I5 (w0:World) (F:Ty→Option Int):Prop:=∀ (B:List (List AV)) (Rw:List RowA) (L:List LoopA) (b:Ty) (r:Int),F b=some r→ACalls Tryz.prog w0 81 [.agg (b.cs)] ⟨B,Rw,L⟩ fun x st=>x = .val (.int .i64 r)∧st=⟨B,Rw,L⟩
theorem Ph (w0:World) (rec:Ty→Option Int) (ih:I5 w0 rec) (n:Nat):I5 w0 (Hy rec n):=by
 intro B Rw L a0 r h
 rw [Hy] at h
 refine hd [.tmp 2] Tryz.func81 Tryz.ntmps81 fun M0 W0 O p o g hu k hs=>?_
 simp only [Am]
 refine rg [1] hs ?_
 obtain ⟨y3,Q,h⟩:=bind_some h
 refine rc 2 [1,3] hs ?_;intro K2 K
 refine Ab _ (OI w0 n _ _ _ a0 _ Q) (hv hs) ?_
 refine ne hs K ?_
 clear K
 refine Ak (fun e st=>∃ (i:Int),Ck e st B Rw L [(1,true,.box B.length 0),(3,true,.val (.int .i64 i))] [a0.cs] [] (It rec n a0 i=some r)) ?_ ?_
 ·intro K6 aa
  refine rg [1,3,11,12,13] hs ?_
  apply Ad
  refine Ap (fun m e st=>∃ (c:Int) (d:Int),Ck e st B Rw L [(1,true,.box B.length 0),(3,true,.val (.int .i64 c)),(11,true,.list (a0.elem.map HK) .none),(12,true,.val (.int .i64 (a0.elem.length:Int))),(13,true,.val (.int .i64 d))] [a0.cs] [] (Dk rec n a0 m c d=some r)) n ⟨y3,0,([]),Rw,ef hs,ef hs,k,h⟩ ?_
  rintro ml8 e st ⟨c,d,Xl8,Rl8,rfl,rfl,k,h⟩ Ul8 Vl8
  cases ml8 with
  | zero=>cases h
  | succ ml8 =>
  rw [Dk] at h
  refine td O p o g k ?_
  refine rg [1,3,11,12,13,14] hs ?_
  apply Aa;intro K10 q
  refine Av h hs (fun hs h=>?_) (fun hs h=>?_)
  rotate_left
  ·refine sx [1,3] hs aa ?_
   exact ⟨c,([]),Rl8,ef hs,ef hs,k,h⟩
  refine sk [1,3,11,12,13] hs q ?_
  clear q
  apply Aa;intro K12 t
  apply Ad
  obtain ⟨F,D,h⟩:=bind_some h
  obtain ⟨Y,U,z⟩:=Ao D
  have y:=Aq (f:=HK) z
  have hs:=And.intro y hs
  refine rg [1,3,5,11,12,13] hs ?_
  obtain ⟨H,N,h⟩:=bind_some h
  refine rk 2 [1,3,11,12,13] hs ?_
  refine Ab _ (ih _ _ _ F _ N) (hv hs) ?_
  refine ne hs t ?_
  clear t
  obtain ⟨ab,h⟩:=Ac h
  refine rl [1,3,11,12,13] hs (fun e s=>Vl8 ml8 e s (Nat.lt_succ_self _)) ?_
  exact ⟨((if c<H then H else c)),(d+1),([F.cs]),Rl8,ef hs,ef hs,k,h⟩
 ·clear h;rintro e st ⟨i,Xk5,Rk5,rfl,rfl,k,h⟩
  rw [It] at h
  refine td O p o g k ?_
  refine Ak (fun e st=>∃ (j:Int),Ck e st B Rw L [(3,true,.val (.int .i64 j))] [a0.cs] [] (HO rec n j=some r)) ?_ ?_
  ·intro K19 J
   refine rg [3,23,24,25] hs ?_
   apply Ad
   refine Ap (fun m e st=>∃ (a:Int) (b:Int),Ck e st B Rw L [(3,true,.val (.int .i64 a)),(23,true,.list (a0.fields.map Cd) .none),(24,true,.val (.int .i64 (a0.fields.length:Int))),(25,true,.val (.int .i64 b))] [a0.cs] [] (CZ rec n a0 m a b=some r)) n ⟨i,0,([]),Rk5,ef hs,ef hs,k,h⟩ ?_
   rintro ml21 e st ⟨a,b,Xl21,Rl21,rfl,rfl,k,h⟩ Ul21 Vl21
   cases ml21 with
   | zero=>cases h
   | succ ml21 =>
   rw [CZ] at h
   refine td O p o g k ?_
   refine rg [3,23,24,25,26] hs ?_
   apply Aa;intro K23 u
   refine Av h hs (fun hs h=>?_) (fun hs h=>?_)
   rotate_left
   ·refine sx [3] hs J ?_
    exact ⟨a,([]),Rl21,ef hs,ef hs,k,h⟩
   refine sk [3,23,24,25] hs u ?_
   clear u
   apply Aa;intro K25 v
   apply Ad
   obtain ⟨l,E,h⟩:=bind_some h
   obtain ⟨Z,V,w⟩:=Ao E
   have x:=Aq (f:=Cd) w
   have hs:=And.intro x hs
   refine rg [3,7,23,24,25] hs ?_
   obtain ⟨G,C,h⟩:=bind_some h
   refine rk 2 [3,23,24,25] hs ?_
   refine Ab _ (ih _ _ _ l.2.2.2.1 _ C) (hv hs) ?_
   refine ne hs v ?_
   clear v
   obtain ⟨ad,h⟩:=Ac h
   refine rl [3,23,24,25] hs (fun e s=>Vl21 ml21 e s (Nat.lt_succ_self _)) ?_
   exact ⟨((if a<G then G else a)),(b+1),([.val (.int .i64 l.1)::(.val (.string l.2.1)::(.val (.int .i64 l.2.2.1)::((l.2.2.2.1.cs)++([.list (l.2.2.2.2.map A1) .none]))))]),Rl21,ef hs,ef hs,k,h⟩
  ·clear h;rintro e st ⟨j,Xk18,Rk18,rfl,rfl,k,h⟩
   rw [HO] at h
   refine td O p o g k ?_
   refine rg [2] hs ?_
   exact rt h hs g k
theorem La (w0:World):∀ n:Nat,I5 w0 (C6 n)
 | 0=>fun _ _ _ _ _ h=>(nomatch h)
 | n+1=>Ph w0 (C6 n) (La w0 n) n
def EQ (n:Nat) (h:Ty):Option Int :=
 (IX n h 1 4096).bind fun g =>
 if !(decide (g.1=0)) then
  some (g.1)
 else
  (C6 n h).bind fun b =>
  if decide (4096<b) then
   some (9)
  else
   some (0)
theorem Ku (w0:World) (hT:Lib.Utf8Tabs 0 1 w0) (n:Nat) (B:List (List AV)) (Rw:List RowA) (L:List LoopA) (a0:Ty) (r:Int) (h:EQ n a0=some r) :
  ACalls Tryz.prog w0 30 [.agg (a0.cs)] ⟨B,Rw,L⟩ fun x st=>x = .val (.int .i64 r)∧st=⟨B,Rw,L⟩:=by
 rw [EQ] at h
 refine hd [.tmp 2] Tryz.func30 Tryz.ntmps30 fun M0 W0 m l j a p i hs=>?_
 simp only [Am]
 refine rg [1] hs ?_
 refine rg [1,3] hs ?_
 apply Aa;intro K3 c
 obtain ⟨o,g,h⟩:=bind_some h
 refine rc 2 [1,4] hs ?_;intro K4 d
 refine Bo _ (Ug w0 hT n _ _ _ a0 1 (B.length+1) 4096 ev _ g) (hv hs) ?_;rintro _ _ ⟨rfl,rfl⟩
 refine ne hs d ?_
 clear d
 refine rg [1,4,8] hs ?_
 refine Av h hs (fun hs h=>?_) (fun hs h=>?_)
 ·refine rg [2] hs ?_
  exact rt h hs a i
 refine sk [1] hs c ?_
 clear c
 apply Aa;intro K9 f
 obtain ⟨k,e,h⟩:=bind_some h
 refine rc 2 [12] hs ?_;intro K10 b
 refine Ab _ (La w0 n _ _ _ a0 _ e) (hv hs) ?_
 refine ne hs b ?_
 clear b
 refine Av h hs (fun hs h=>?_) (fun hs h=>?_)
 ·refine rg [2] hs ?_
  exact rt h hs a i
 refine sk [] hs f ?_
 clear f
 refine rg [2] hs ?_
 exact rt h hs a i
def Dc (n:Nat) (g:List (ByteArray × Vl)) (b:(ByteArray × Vl)→Option Bool):Option Bool :=
 (B7 n g b).bind fun h =>
 some (decide (0≤h))
theorem LL (w0:World) (n:Nat) (B:List (List AV)) (Rw:List RowA) (L:List LoopA) (a0:List (ByteArray × Vl)) (fa1:FuncId) (ca1:List AV) (a1:(ByteArray × Vl)→Option Bool) (ha1:∀ (x0:ByteArray × Vl) r,a1 x0=some r→∀ B' rows,B <+: B'→Rw <+: rows→ACalls Tryz.prog w0 fa1 ([.agg (.val (.string x0.1)::(x0.2.cs))]++ca1) ⟨B',rows,L⟩ fun v s=>v = .val (.bool r)∧s=⟨B',rows,L⟩) (r:Bool) (h:Dc n a0 a1=some r) :
  ACalls Tryz.prog w0 216 [.list (a0.map BI) .none,.clo fa1 ca1] ⟨B,Rw,L⟩ fun x st=>x = .val (.bool r)∧st=⟨B,Rw,L⟩:=by
 rw [Dc] at h
 refine hd [.tmp 4] Tryz.func216 Tryz.ntmps216 fun M0 W0 p o k b m g hs=>?_
 simp only [Am]
 have d:=B6 (m (.clo fa1 ca1) (by simp))
 refine rg [0,1] hs ?_
 obtain ⟨q,f,h⟩:=bind_some h
 refine rc 2 [4] hs ?_;intro K2 c
 refine Ab _ (IP w0 n _ _ _ a0 fa1 ca1 a1 (fun x0 r l e a i j=>ha1 x0 r l e a (List.IsPrefix.trans px i) (g.pre.trans j)) _ f) (hv hs) ?_
 refine ne hs c ?_
 clear c
 exact rt h hs b g
def DR (b:ByteArray × Vl) (g:ByteArray × Vl):Bool :=
 (Dz b.1 g.1)&&(!(BO b.2))
theorem Vp (w0:World) (B:List (List AV)) (Rw:List RowA) (L:List LoopA) (a0:ByteArray × Vl) (la1:Nat) (a1:ByteArray × Vl) (hla1:B[la1]? = some (.val (.string a1.1)::(a1.2.cs))) (r:Bool) (h:DR a0 a1=r) :
  ACalls Tryz.prog w0 217 [.agg (.val (.string a0.1)::(a0.2.cs)),.box la1 0] ⟨B,Rw,L⟩ fun x st=>x = .val (.bool r)∧st=⟨B,Rw,L⟩:=by
 rw [DR] at h
 refine hd [.tmp 3] Tryz.func217 Tryz.ntmps217 fun M0 W0 g f e a i d hs=>?_
 simp only [Am]
 have c:=(List.getElem?_eq_some_iff.1 hla1).1
 have hs:=And.intro (Af hla1) hs
 refine rg [1,2] hs ?_
 refine rc 2 [3] hs ?_;intro K2 b
 refine DI _ (fun _=>NF w0 _ _ _ a0.2) (hv hs) ?_
 refine ne hs b ?_
 clear b
 exact rT h hs a d
theorem TQ (w0:World) (B:List (List AV)) (Rw:List RowA) (L:List LoopA) (a0:ByteArray × Vl) (la1:Nat) (a1:ByteArray × Vl) (hla1:B[la1]? = some (.val (.string a1.1)::(a1.2.cs))) :
  ACalls Tryz.prog w0 217 [.agg (.val (.string a0.1)::(a0.2.cs)),.box la1 0] ⟨B,Rw,L⟩ fun x st=>x = .val (.bool (DR a0 a1))∧st=⟨B,Rw,L⟩:=Vp w0 B Rw L a0 la1 a1 hla1 _ rfl
structure VPre (Rw rows:List RowA):Prop where
 pre:Rw <+: rows
def NQ:ByteArray × Vl:=(⟨#[]⟩,Vl.mk 0 0 0 ⟨#[]⟩ [] [])
def BG (l:List (ByteArray × Vl)):List (ByteArray × Vl):=MF Prod.fst NQ l
theorem Gk (l:List (ByteArray × Vl)):(BG l).length=l.length:=by simp only [BG,MF,List.length_map];exact Hl _ _
theorem JX (x:ByteArray × Vl):(BI x).cells.length=7∧AY (BI x)=true:=by simp +decide only [go_sem,and_self]
theorem Zo (x:ByteArray × Vl):(BI x).pub=BI x:=by simp +decide only [go_sem]
theorem Xu (x:ByteArray × Vl):∀ c∈(BI x).cells,∀ a b d,Under a b d c:=by
 intro c hc a b d
 simp only [BI,AV.cells,List.mem_cons] at hc
 rcases hc with rfl | hc
 ·exact .val _
 ·exact x.2.under a b d c hc
theorem ZbL (w0:World) (st:St):ACalls Tryz.prog w0 218 [.list [] .none,.clo 219 []] st fun r s=>r = .tup []∧s=st:=by
 refine ⟨A3 Tryz.func218 rfl (by decide),fun M w d e c=>?_⟩
 obtain ⟨v0,v1,rfl⟩:∃ v0 v1,d = #[v0,v1]:=by
  have hs:=c.1
  simp only [List.length_cons,List.length_nil] at hs
  match d,hs with
  | ⟨[a,b]⟩,_=>exact ⟨a,b,rfl⟩
 have h0:R w0 M w v0 (.list [] .none):=c.2 0 (by simp) (by simp)
 obtain ⟨p,cap,rfl⟩:∃ p cap,v0 = .slice p 0 cap:=by
  generalize hx:AV.list [] Ev.Own.none=x at h0
  cases h0 with
  | nil ho=>exact ⟨_,_,rfl⟩
  | emp ho=>exact ⟨_,_,rfl⟩
  | list sz us hc hm hcell hu ho=>cases hx;exact ⟨_,_,rfl⟩
  | _=>cases hx
 have h:=AnyF.slices_SortFunc_none (P:=Tryz.prog) (ρ:=Tryz.laysSort_ren) Tryz.laysSort p cap v1 w
 refine h.mono ?_
 rintro en g ⟨rfl,rfl⟩
 exact ⟨.tuple #[],M,.tup [],st,rfl,⟨rfl,rfl⟩,.refl _ _ _,e,.tup rfl (fun i f _=>absurd f (by simp))⟩
theorem Zbo (w0:World) {st:St} {id ver:Nat} (l:List (ByteArray × Vl)) (hid:st.rows[id]? = some (.vec ver 7 (l.flatMap fun x=>(BI x).cells))) (hn:0<l.length) (hz:l.length<4611686018427387904) :
  ACalls Tryz.prog w0 218 [.vec id ver 0 l.length,.clo 219 []] st fun r s=>r = .tup []∧s={ st with rows:=st.rows.set id (.vec ver 7 ((BG l).flatMap fun x=>(BI x).cells)) } :=
 ZbE (ρ:=Tryz.laysSort_ren) Tryz.laysSort (A3 Tryz.func218 rfl (by decide)) 6 Tryz.isAgg75 Tryz.sizeOf75 219 (A3 Tryz.func219 rfl (by decide))
  (fun s c r a W b d e f=>Zad s c r a W b d e f) BI Prod.fst NQ l (fun x=>⟨x.2.cs,rfl,Vl.cs_length _⟩) hid hn hz
def Ir (n:Nat) (g:Int→(List (ByteArray × Vl))→Option Vl) (b:Int) (b1_k12_5:List (ByteArray × Vl)):Option Vl :=
 if BR (b+1) then
  g (b+1) b1_k12_5
 else none
def JC (n:Nat)  (b1_k4_5:List (ByteArray × Vl)):Option Vl :=
 if b1_k4_5.length<4611686018427387904 then
  (BK n (Vl.mk 9 0 0 ((⟨#[]⟩:ByteArray)) ([]) (BG b1_k4_5))).bind fun b =>
  some (b)
 else none
def Ej (n:Nat) (g:List (ByteArray × Vl)):Nat→Int→(List (ByteArray × Vl))→Option Vl
 | 0,_,_=>none
 | m+1,b,b1_l7_5 =>
  if decide (b<(g.length:Int)) then
   (Cb g b).bind fun h =>
   if BR (b+1) then
    if 0≤b+1∧b+1≤(g.length:Int)∧(g.length:Int)≤(g.length:Int) then
     (Dc n (g.drop (b+1).toNat) (fun (s:ByteArray × Vl)=>some (DR s h))).bind fun q =>
     if (!(BO h.2))&&(!q) then
      if (b1_l7_5.length+1)*104≤140737488355328∧b1_l7_5.length+1≤4611686018427387904 then
       Ir n (Ej n g m) b (b1_l7_5++([h]))
      else none
     else
      Ir n (Ej n g m) b b1_l7_5
    else none
   else none
  else
   JC n b1_l7_5
def KI (n:Nat) (b:List (ByteArray × Vl)):Option Vl :=
 Ej n b n 0 ([])
theorem Y8 (w0:World) (n:Nat) (B:List (List AV)) (Rw:List RowA) (L:List LoopA) (a0:List (ByteArray × Vl)) (r:Vl) (h:KI n a0=some r) :
  ACalls Tryz.prog w0 171 [.list (a0.map BI) .none] ⟨B,Rw,L⟩ fun x st=>x = .agg (r.cs)∧st=⟨B,Rw,L⟩:=by
 rw [KI] at h
 refine hd [.cell 2 46] Tryz.func171 Tryz.ntmps171 fun M0 W0 hN H E k hu l hs=>?_
 simp only [Am]
 refine rg [0,2] hs ?_
 apply Aa;intro K2 J
 apply Ag 1 [0,2,3]
 rw [Ae];simp +decide only [go_sem,Nat.reduceAdd,QC,OG,JK]
 (repeat' apply And.intro)<;>first | refine J _ _ ?_ | exact cl
 clear J
 refine Ak (fun e st=>∃ (a:List (ByteArray × Vl)) (j:AV) (Xk4:List (List AV)) (Rk4:List RowA),e=[(2,true,.box B.length 0),(3,true,.box (B.length+1) 0)]∧st=⟨B++([[.val (.int .i64 0),.val (.int .i64 0),.val (.int .i64 0),.val (.string ((⟨#[]⟩:ByteArray))),.list ([]) .full,.list ([]) .full],[.val (.int .i64 9),.val (.int .i64 0),.val (.int .i64 0),.val (.string ((⟨#[]⟩:ByteArray))),.list ([]) .full,j]]++Xk4),Rk4,L⟩∧VOne Rw Rk4 7 (a.map BI) j∧JC n a=some r) ?_ ?_
 ·intro K5 ad
  refine QJ (B.length+1) 5 (by first | rfl | (simp only [HL,Gs];rfl)) rfl ?_;simp +decide only [go_sem,Nat.reduceAdd,List.set_cons_succ,List.set_cons_zero]
  refine rg [0,2,3,8,9,10] hs ?_
  apply Ad
  refine Ap (fun m e st=>∃ (d:Int) (c:List (ByteArray × Vl)) (b:AV) (Xl7:List (List AV)) (Rl7:List RowA),e=[(0,true,.list (a0.map BI) .none),(2,true,.box B.length 0),(3,true,.box (B.length+1) 0),(8,true,.list (a0.map BI) .none),(9,true,.val (.int .i64 (a0.length:Int))),(10,true,.val (.int .i64 d))]∧st=⟨B++([[.val (.int .i64 0),.val (.int .i64 0),.val (.int .i64 0),.val (.string ((⟨#[]⟩:ByteArray))),.list ([]) .full,.list ([]) .full],[.val (.int .i64 9),.val (.int .i64 0),.val (.int .i64 0),.val (.string ((⟨#[]⟩:ByteArray))),.list ([]) .full,b]]++Xl7),Rl7,L⟩∧VOne Rw Rl7 7 (c.map BI) b∧Ej n a0 m d c=some r) n ⟨0,[],.list [] .seed,[],Rw,ef hs,ef hs,VOne.none Rw 7,h⟩ ?_
  rintro ml7 e st ⟨d,c,b,Xl7,Rl7,rfl,rfl,l,h⟩ Ul7 Vl7
  cases ml7 with
  | zero=>cases h
  | succ ml7 =>
  rw [Ej] at h
  have hU:=l.under (B.length+2) L.length
  refine tdV hN H E k l ?_
  refine rg [0,2,3,8,9,10,11] hs ?_
  apply Aa;intro K9 K
  refine Av h hs (fun hs h=>?_) (fun hs h=>?_)
  rotate_left
  ·refine sx [2,3] hs ad ?_
   exact ⟨c,b,([]),Rl7,ef hs,ef hs,VOne.of_eq l (by simp only [List.map_append,List.map_cons,List.map_nil]),h⟩
  refine sk [0,2,3,8,9,10] hs K ?_
  clear K
  refine Ak (fun e st=>∃ (i:List (ByteArray × Vl)) (g:AV) (Xk12:List (List AV)) (Rk12:List RowA),e=[(0,true,.list (a0.map BI) .none),(2,true,.box B.length 0),(3,true,.box (B.length+1) 0),(8,true,.list (a0.map BI) .none),(9,true,.val (.int .i64 (a0.length:Int))),(10,true,.val (.int .i64 d))]∧st=⟨B++([[.val (.int .i64 0),.val (.int .i64 0),.val (.int .i64 0),.val (.string ((⟨#[]⟩:ByteArray))),.list ([]) .full,.list ([]) .full],[.val (.int .i64 9),.val (.int .i64 0),.val (.int .i64 0),.val (.string ((⟨#[]⟩:ByteArray))),.list ([]) .full,g]]++Xk12),Rk12,L⟩∧VOne Rw Rk12 7 (i.map BI) g∧Ir n (Ej n a0 ml7) d i=some r) ?_ ?_
  ·intro K13 w
   apply Ad
   obtain ⟨x15,O,h⟩:=bind_some h
   obtain ⟨V,Z,G⟩:=Ao O
   have F:=Aq (f:=BI) G
   have hs:=And.intro F hs
   refine rg [0,2,3,4,5,8,9,10] hs ?_
   obtain ⟨ag,h⟩:=Ac h
   obtain ⟨ah,h⟩:=Ac h
   obtain ⟨ak,hy19,h⟩:=bind_some h
   refine rc 2 [0,2,3,5,6,8,9,10] hs ?_;intro K16 v
   refine Ab _ (LL w0 n _ _ _ (a0.drop (d+1).toNat) 217 [.box (B.length+2) 0] (fun (x0:ByteArray × Vl)=>some (DR x0 x15)) (fun x0 r hx B' af hB' aj=>by cases hx;exact TQ w0 _ _ _ x0 _ x15 (Ea hB' (ef hs))) _ hy19) (hv hs) ?_
   refine ne hs v ?_
   clear v
   refine rc 2 [0,2,3,5,8,9,10,28] hs ?_;intro K20 C
   refine Ab _ (NF w0 _ _ _ x15.2) (hv hs) ?_
   refine ne hs C ?_
   clear C
   refine Av h hs (fun hs h=>?_) (fun hs h=>?_)
   ·obtain ⟨D,h⟩:=Ac h
    obtain ⟨Y,u,l,o⟩:=l.append (P:=Tryz.prog) (y:=BI x15) LV (by rw [HF];rfl) (by decide) (by rw [List.length_map];exact D.1) (by rw [List.length_map];exact D.2) (JX x15) (Zo x15) (Xu x15) (fun z hz=>by obtain ⟨y,_,rfl⟩:=List.mem_map.1 hz;exact (JX y).1)
    simp only [E1] at o
    replace o:=And.intro o l.cell
    have hs:=And.intro o hs
    refine rl [0,2,3,8,9,10] hs w ?_
    exact ⟨(c++([x15])),Y,([.val (.string x15.1)::(x15.2.cs)]),u,ef hs,ef hs,VOne.of_eq l (by simp only [List.map_append,List.map_cons,List.map_nil]),h⟩
   refine sk [0,2,3,8,9,10] hs w ?_
   exact ⟨c,b,([.val (.string x15.1)::(x15.2.cs)]),Rl7,ef hs,ef hs,VOne.of_eq l (by simp only [List.map_append,List.map_cons,List.map_nil]),h⟩
  ·clear h;rintro e st ⟨i,g,Xk12,Rk12,rfl,rfl,l,h⟩
   rw [Ir] at h
   have hU:=l.under (B.length+2) L.length
   refine tdV hN H E k l ?_
   obtain ⟨ai,h⟩:=Ac h
   refine rl [0,2,3,8,9,10] hs (fun e s=>Vl7 ml7 e s (Nat.lt_succ_self _)) ?_
   exact ⟨(d+1),i,g,([]),Rk12,ef hs,ef hs,VOne.of_eq l (by simp only [List.map_append,List.map_cons,List.map_nil]),h⟩
 ·clear h;rintro e st ⟨a,j,Xk4,Rk4,rfl,rfl,l,h⟩
  rw [JC] at h
  have hU:=l.under (B.length+2) L.length
  refine tdV hN H E k l ?_
  obtain ⟨Q,h⟩:=Ac h
  rcases l.at_ with ⟨hnil,rfl⟩ | ⟨id,ver,rfl,hpos,hid,hrow⟩
  ·have hb0:a=[]:=List.map_eq_nil_iff.1 hnil
   subst hb0
   refine rc 2 [2,3] hs ?_;intro K27 q
   refine Ab _ (ZbL w0 _) (hv hs) ?_
   refine ne hs q ?_
   clear q
   obtain ⟨aa,t,h⟩:=bind_some h
   rw [show BG []=[] from List.eq_nil_of_length_eq_zero (Gk [])] at t
   refine rc 2 [2] hs ?_;intro K28 p
   refine Ab _ (G7 w0 n _ _ _ (Vl.mk 9 0 0 ((⟨#[]⟩:ByteArray)) ([]) []) _ t) (hv hs) ?_
   refine ne hs p ?_
   clear p
   exact rt h hs k l
  ·rw [List.length_map] at hpos
   rw [List.length_map]
   rw [show ((a.map BI).flatMap AV.cells)=a.flatMap fun x=>(BI x).cells from List.flatMap_map ..] at hrow
   refine rc 2 [2,3] hs ?_;intro K27 q
   refine Bo _ (Zbo w0 (st:=⟨_,_,_⟩) a hrow hpos Q) (hv hs) ?_;rintro _ _ ⟨rfl,rfl⟩
   refine ne hs q ?_
   clear q
   have ab:=(List.getElem?_eq_some_iff.1 hrow).1
   have U:EN (Rk4.set id (.vec ver 7 ((BG a).flatMap fun x=>(BI x).cells))) id ver=some (7,(BG a).flatMap fun x=>(BI x).cells):=by simp [EN,ab]
   have N:(BG a).length=a.length:=Gk _
   refine Ob (B.length+1) 5 true (by first | rfl | (simp only [HL,Gs];rfl)) rfl U (.inl rfl) (by rw [Nat.zero_add,OO (fun x _=>(JX x).1),N];exact Nat.le_refl _) ?_
   have ae:Pi 7 true ((BG a).flatMap fun x=>(BI x).cells) 0 a.length=(BG a).map BI:=by
    have:=ZbV (ys:=(BG a).map BI) (sz:=7) (fun y hy=>by obtain ⟨x,_,rfl⟩:=List.mem_map.1 hy;exact ⟨_,rfl,(JX x).1⟩)
    rw [List.length_map,N,List.flatMap_map] at this
    exact this
   rw [ae]
   simp +decide only [go_sem,Nat.reduceAdd,List.set_cons_succ,List.set_cons_zero]
   obtain ⟨aa,t,h⟩:=bind_some h
   have l:VPre Rw ((Rk4.set id (.vec ver 7 ((BG a).flatMap fun x=>(BI x).cells))).set id (.dead (ver+1))):=⟨J2 (J2 l.pre hid _) hid _⟩
   refine rc 2 [2] hs ?_;intro K28 p
   refine Ab _ (G7 w0 n _ _ _ (Vl.mk 9 0 0 ((⟨#[]⟩:ByteArray)) ([]) (BG a)) _ t) (hv hs) ?_
   refine ne hs p ?_
   clear p
   exact rt h hs k l
def Jr (n:Nat) (g:ByteArray) (b:Vl):Option Vl :=
 (BK n (Vl.mk 10 0 0 g ([b]) ([]))).bind fun h =>
 some (h)
theorem Xa (w0:World) (n:Nat) (B:List (List AV)) (Rw:List RowA) (L:List LoopA) (a0:ByteArray) (a1:Vl) (r:Vl) (h:Jr n a0 a1=some r) :
  ACalls Tryz.prog w0 134 [.val (.string a0),.agg (a1.cs)] ⟨B,Rw,L⟩ fun x st=>x = .agg (r.cs)∧st=⟨B,Rw,L⟩:=by
 rw [Jr] at h
 refine hd [.cell 4 46] Tryz.func134 Tryz.ntmps134 fun M0 W0 g f e a j d hs=>?_
 simp only [Am]
 refine rg [0,3,4] hs ?_
 obtain ⟨i,c,h⟩:=bind_some h
 refine rc 2 [4] hs ?_;intro K2 b
 refine Ab _ (G7 w0 n _ _ _ (Vl.mk 10 0 0 a0 ([a1]) ([])) _ c) (hv hs) ?_
 refine ne hs b ?_
 clear b
 exact rt h hs a d
def OJ {α:Type} (p:α→Bool) (l:List α) (j:Nat):Int :=
 if (l.drop j).findIdx p<(l.drop j).length then (j:Int)+((l.drop j).findIdx p:Nat) else -1
theorem LI {α:Type} (p:α→Bool) (l:List α) (j:Nat) (h:l.length≤j):OJ p l j = -1:=by
 unfold OJ
 rw [List.drop_eq_nil_of_le h];rfl
theorem Jp {α:Type} (p:α→Bool) (l:List α) (j:Nat) (h:j<l.length):OJ p l j=if p l[j]=true then (j:Int) else OJ p l (j+1):=by
 unfold OJ
 rw [List.drop_eq_getElem_cons h,List.findIdx_cons]
 cases hp:p l[j] with
 | true=>simp;omega
 | false =>
  simp only [cond_false,List.length_cons,Bool.false_eq_true,if_false]
  by_cases q:(l.drop (j+1)).findIdx p<(l.drop (j+1)).length
  ·rw [if_pos (by omega),if_pos q];push_cast;omega
  ·rw [if_neg (by omega),if_neg q]
theorem Ro {α:Type} (p:α→Bool) (l:List α):∀ (k j:Nat),j+k=l.length→OJ p l j = -1∨∃ i,∃ h:i<l.length,OJ p l j=(i:Int)∧p l[i]=true
 | 0,j,h => .inl (LI p l j (by omega))
 | k+1,j,h=>by
  have a:j<l.length:=by omega
  rw [Jp p l j a]
  by_cases hp:p l[j]=true
  ·rw [if_pos hp];exact .inr ⟨j,a,rfl,hp⟩
  ·rw [if_neg hp];exact Ro p l k (j+1) (by omega)
theorem RB (n:Nat) (l:List TF) (p:TF→Bool) (hl:l.length≤1000000000):∀ (k m i:Nat),i+k=l.length→k<m→AE n l (fun x=>some (p x)) m i=some (OJ p l i)
 | k,0,i,_,h=>absurd h (Nat.not_lt_zero _)
 | 0,m+1,i,hi,_=>by
  rw [AE,An,decide_eq_false (by omega),LI p l i (by omega)]
  rfl
 | k+1,m+1,i,hi,hm=>by
  have a:i<l.length:=by omega
  rw [AE,An,decide_eq_true a]
  simp only [if_true,Au a,Option.bind_some]
  rw [Jp p l i a]
  by_cases hp:p l[i]=true
  ·rw [if_pos hp,if_pos hp]
  ·rw [if_neg hp,if_neg hp,if_pos (Ar (by omega))]
   exact RB n l p hl k m (i+1) (by omega) (by omega)
def Nj:TF:=(0,(⟨#[]⟩:ByteArray),0,Ty.mk 0 0 0 0 [] [] [],[])
theorem ZfA (n:Nat) (t:Ty) (p:TF→Bool) (hn:t.size+1450000≤n) (ht:t.small) :
  (t.kind≠9∧t.kind≠10∧Jo n t (fun x=>some (p x))=some (Nj,false)) ∨
  ((t.kind=9∨t.kind=10)∧((OJ p t.fields 0 = -1∧Jo n t (fun x=>some (p x))=some (Nj,false))∨∃ i,∃ h:i<t.fields.length,OJ p t.fields 0=(i:Int)∧Jo n t (fun x=>some (p x))=some (t.fields[i],true))):=by
 obtain ⟨d,g,c⟩:=ht
 have j:=t.lens
 rw [Jo]
 by_cases hk:t.kind=9∨t.kind=10
 ·right
  refine ⟨hk,?_⟩
  rw [if_neg (by simp only [Bool.and_eq_true,Bool.not_eq_true',decide_eq_false_iff_not];omega)]
  rw [AL]
  have e:=RB n t.fields p (by omega) t.fields.length n 0 (by omega) (by omega)
  rw [show ((0:Nat):Int)=0 from rfl] at e
  rw [e]
  simp only [Option.bind_some]
  rcases Ro p t.fields t.fields.length 0 (by omega) with q | ⟨i,hi,q,hp⟩
  ·rw [q];left;exact ⟨rfl,rfl⟩
  ·rw [q];right
   refine ⟨i,hi,rfl,?_⟩
   rw [decide_eq_false (by omega)]
   simp only [Bool.false_eq_true,if_false,Au hi,Option.bind_some]
   obtain ⟨_,b,f,a⟩:=(t.ok_eq.1 c).2.2.2 _ (List.getElem_mem hi)
   have hs:=t.field_size _ (List.getElem_mem hi)
   rw [ZcX (Hv n) n t.fields[i] (by omega) (by omega) (fun v hv=>RP n v (by have:=(a v hv).1;omega) (by have:=(a v hv).1;omega)) (Ru n _ (by omega) (by omega) b)]
   rfl
 ·left
  refine ⟨fun h=>hk (.inl h),fun h=>hk (.inr h),?_⟩
  rw [if_pos (by simp only [Bool.and_eq_true,Bool.not_eq_true',decide_eq_false_iff_not];omega)]
  rfl
def Cj (b:Ty) (g:Int) (h:Int):Bool :=
 ((decide (g≤b.min))&&(decide (b.max≤h)))&&(decide (b.min≤b.max))
def LU (g:Int) (b:Bool):(Int × Int) :=
 if b then
  (0,1024)
 else
  if decide (g=6) then
   ((-719162),2932896)
  else
   if decide (g=7) then
    ((-62135596800000),253402300799999)
   else
    (0,256)
def Nx (g:Int) (b:Bool):(Int × Int) :=
 if b then
  ((-999999999999999),999999999999999)
 else
  if decide (g=4) then
   LU g true
  else
   LU g (decide (g=5))
def AG (b:Int):(Int × Int) :=
 if decide (b=2) then
  Nx b true
 else
  Nx b (decide (b=3))
def BB (b:Ty):Bool :=
 (((((!(decide (2≤b.kind)&&decide (b.kind≤8)))&&((!(decide (b.min=0)))||(!(decide (b.max=0)))))||((!(decide (b.kind=3)))&&(!(decide (b.scale=0)))))||((!(decide (b.kind=4)))&&(decide (0<(b.words.length:Int)))))||((!(decide (b.kind=8)))&&(decide (0<(b.elem.length:Int)))))||(((!(decide (b.kind=9)))&&(!(decide (b.kind=10))))&&(decide (0<(b.fields.length:Int))))
end Go.Proofs.YtgpmlelfkjfbiaaGreatDoor
