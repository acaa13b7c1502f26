/-
  Part 5 of the proof: rules and walks that the claim's last text uses.
-/
import Derived.BigQuiet
import Derived.Deep.LoopGhost
import Derived.Deep.QuietTactic
import Derived.Ground.Names2Prog
import Derived.Ground.NamesProg
import Derived.Ground.SlgfProg
import Derived.Ground.SlgnProg
import Derived.Ground.SlsfProg
import Derived.Laws.RangeAny
import Derived.Lib.OthersKept
import Derived.Shelf.LaysC
import Derived.Shelf.LaysM
import Derived.Shelf.Slices.Cells
import Derived.Shelf.Slices.Clone
import Derived.Shelf.Slices.CompactS
import Derived.Shelf.SlicesE.Clone
import Derived.Shelf.SlicesE.Compact
import Derived.Shelf.SlicesE.DeleteFunc
import Derived.Shelf.SlicesE.Equal
import Derived.Shelf.SlicesE.IndexFunc
import Derived.Shelf.Small.Bits
import Derived.Shelf.Small.Strs
import Derived.Shelf.Small.Utf8
import Derived.Shelf.Sort.Plain
import Derived.Shelf.Strconv.Atoi
import Derived.Shelf.Strconv.AtoiAll
import Derived.Shelf.Strconv.AtoiErrFast
import Derived.Shelf.Strconv.AtoiFail
import Derived.Shelf.Strconv.AtoiInnerAll
import Derived.Shelf.Strconv.AtoiLong
import Derived.Shelf.Strconv.Clone
import Derived.Shelf.Strconv.Lower
import Derived.Shelf.Strconv.ParseInt10
import Derived.Shelf.Strconv.ParseIntEmpty
import Derived.Shelf.Strconv.ParseUint10
import Derived.Shelf.Strconv.ParseUint10Any
import Derived.Shelf.Strconv.ParseUint10Empty
import Derived.Shelf.Strconv.RangeError
import Derived.Shelf.Strconv.SyntaxError
import Derived.Shelf.Strconv.ToError
import Derived.Shelf.Strconv.ToErrorRange
import Derived.Shelf.Strings.AsciiSet
import Derived.Shelf.Strings.Cut
import Derived.Shelf.Strings.IndexAny
import Derived.Shelf.Strings.IndexAnyAll
import Derived.Shelf.Strings.Prefix
import Derived.Shelf.Strings.Repeat
import Derived.Shelf.Strings.Runes
import Derived.Shelf.Strings.Search1
import Derived.Shelf.Strings.Search2
import Derived.Shelf.Strings.Shaped
import Derived.Test.YtmcnjijeocmkgaaGreatDoorProg
import Derived.WalkMore
import Derived.WalkSmall
import Derived.Test.YtmcnjijeocmkgaaGreatDoorLh4
set_option linter.unusedSimpArgs false
set_option linter.unusedVariables false
set_option maxRecDepth 100000
set_option maxHeartbeats 4000000
namespace Go.Proofs.YtmcnjijeocmkgaaGreatDoor
open Go Go.RowKit Go.Ev
def Cd (b:Int) (h:Int) (g:Int):Bool :=
 (decide (b<h))||(decide (g<b))
def Ef (b:Vl):Bool :=
 (((((!((((decide (1≤b.kind))&&(decide (b.kind≤3)))||(decide (b.kind=6)))||(decide (b.kind=7))))&&(!(decide (b.int=0))))||((!(decide (b.kind=3)))&&(!(decide (b.scale=0)))))||((!(((decide (b.kind=4))||(decide (b.kind=5)))||(decide (b.kind=10))))&&(!(Fv b.text (⟨#[]⟩:ByteArray)))))||((!((decide (b.kind=8))||(decide (b.kind=10))))&&(decide (0<(b.list.length:Int)))))||((!(decide (b.kind=9)))&&(decide (0<(b.fields.length:Int))))
def B2 (b:Ty) (h:Int) (g:Int):Bool :=
 ((decide (h≤b.min))&&(decide (b.max≤g)))&&(decide (b.min≤b.max))
def Na (b:Int) (g:Bool):(Int × Int) :=
 if g then
  (0,1024)
 else
  if decide (b=6) then
   ((-719162),2932896)
  else
   if decide (b=7) then
    ((-62135596800000),253402300799999)
   else
    (0,256)
def NU (b:Int) (g:Bool):(Int × Int) :=
 if g then
  ((-999999999999999),999999999999999)
 else
  if decide (b=4) then
   Na b true
  else
   Na b (decide (b=5))
def A2 (b:Int):(Int × Int) :=
 if decide (b=2) then
  NU b true
 else
  NU b (decide (b=3))
def Bj (b:Ty):Bool :=
 (((((!(decide (2≤b.kind)&&decide (b.kind≤8)))&&((!(decide (b.min=0)))||(!(decide (b.max=0)))))||((!(decide (b.kind=3)))&&(!(decide (b.scale=0)))))||((!(decide (b.kind=4)))&&(decide (0<(b.words.length:Int)))))||((!(decide (b.kind=8)))&&(decide (0<(b.elem.length:Int)))))||(((!(decide (b.kind=9)))&&(!(decide (b.kind=10))))&&(decide (0<(b.fields.length:Int))))
theorem Z6 {j:Nat}:((j+1:Nat):Int)-1=(j:Int):=by omega
theorem Zcl {j:Nat}:decide (0<((j+1:Nat):Int))=true:=Ah (by omega)
theorem Zck {k:Nat} (h:k<1000000000000):A9 (k:Int):=by unfold A9;omega
def Zds:Option ByteArray→List ByteArray→Int
 | _,[]=>0
 | none,x::r=>if FZ x=true then Zds (some x) r else 12
 | some p,x::r=>if FZ x=true then (if Fv x p=true then 7 else if sLt x p=true then 24 else Zds (some x) r) else 12
def Zbo (l:List (ByteArray × Vl)):Nat→Option ByteArray
 | 0=>none
 | i+1=>(l[i]?).map Prod.fst
theorem Zb2 (n:Nat) (v:Vl) (hl:(v.fields).length≤1000000000000) (hz:∀ p∈v.fields,p.1.size≤maxLen):∀ (k m i:Nat),i+k=(v.fields).length→k<m→Eh n v m i=some (Zds (Zbo (v.fields) i) (((v.fields).map Prod.fst).drop i))
 | k,0,i,_,h=>absurd h (Nat.not_lt_zero _)
 | 0,m+1,i,hi,_=>by
  rw [Eh,AH,Ac]
  simp only [Bool.false_eq_true,if_false,Lr]
  rw [List.drop_eq_nil_of_le (by rw [List.length_map];omega)]
  cases Zbo (v.fields) i<;>rfl
 | k+1,m+1,i,hi,hm=>by
  have a:i<(v.fields).length:=by omega
  have ih:=Zb2 n v hl hz k m (i+1) (by omega) (by omega)
  rw [Eh,AH,Ah a]
  simp only [if_true,AK a,Af]
  rw [Ai (hz _ (List.getElem_mem a)),List.drop_eq_getElem_cons (by rw [List.length_map];omega),List.getElem_map]
  have c:Zbo (v.fields) (i+1)=some (v.fields)[i].1:=by simp only [Zbo,List.getElem?_eq_getElem a];rfl
  rw [c] at ih
  cases i with
  | zero =>
   simp only [Zbo,Zds]
   by_cases hb:FZ (v.fields)[0].1=true
   ·rw [Ai hb,hb]
    simp only [Bool.not_true,Bool.false_eq_true,if_false]
    rw [Aj (by decide),Ai (AG (by omega))]
    exact ih
   ·rw [Aj hb,Bool.eq_false_iff.2 hb];rfl
  | succ j =>
   have b:j<(v.fields).length:=by omega
   have e:Zbo (v.fields) (j+1)=some (v.fields)[j].1:=by simp only [Zbo,List.getElem?_eq_getElem b];rfl
   rw [e]
   simp only [Zds]
   by_cases hb:FZ (v.fields)[j+1].1=true
   ·rw [Ai hb,hb]
    simp only [Bool.not_true,Bool.false_eq_true,if_false,Zcl,if_true,Z6]
    have d:A9 (j:Int):=Zck (by omega)
    simp only [Ai d,AK b,Af]
    by_cases h1:Fv (v.fields)[j+1].1 (v.fields)[j].1=true
    ·rw [Ai h1,Ai h1]
    ·rw [Aj h1,Aj h1]
     by_cases h2:sLt (v.fields)[j+1].1 (v.fields)[j].1=true
     ·rw [Ai h2,Ai h2]
     ·rw [Aj h2,Aj h2,Ai (AG (by omega))]
      exact ih
   ·rw [Aj hb,Bool.eq_false_iff.2 hb];rfl
def Gs (v:Vl):Int :=
 if F5 v=true then 19
 else if v.kind<1∨10<v.kind then 11
 else if Ef v=true then 3
 else if v.kind=1 then (if Cd v.int 0 1=true then 2 else 0)
 else if v.kind=2 then (if Cd v.int (-999999999999999) 999999999999999=true∨Cd v.scale 0 12=true then 2 else 0)
 else if v.kind=3 then (if Cd v.int (-999999999999999) 999999999999999=true∨Cd v.scale 0 12=true then 2 else 0)
 else if v.kind=4 then (if 1024<v.text.size then 5 else if Lib.validD v.text.data.toList=true then 0 else 16)
 else if v.kind=5 then (if 1024<v.text.size then 5 else 0)
 else if v.kind=6 then (if Cd v.int (-719162) 2932896=true then 2 else 0)
 else if v.kind=7 then (if Cd v.int (-62135596800000) 253402300799999=true then 2 else 0)
 else if v.kind=8 then (if 256<v.list.length then 9 else 0)
 else if v.kind=9 then (if 64<v.fields.length then 9 else Zds none (v.fields.map Prod.fst))
 else if FZ v.text=true then (if v.list.length=0 then 4 else if 1<v.list.length then 3 else 0) else 12
theorem Il {k:Int} (h:¬ (k<1∨10<k)):k=1∨k=2∨k=3∨k=4∨k=5∨k=6∨k=7∨k=8∨k=9∨k=10:=by omega
theorem Zib (v:Vl) (h:¬ (v.kind<1∨10<v.kind)):Nv v = !Ef v:=by
 have a:∀ x:Nat,decide (0<(x:Int)) = !decide ((x:Int)=0):=fun x=>by
  by_cases h:x=0
  ·subst h;rfl
  ·rw [Ah (show 0<(x:Int) by omega),Ag (show ¬ (x:Int)=0 by omega)];rfl
 rw [Nv,Ef]
 simp only [a]
 rcases Il h with hk | hk | hk | hk | hk | hk | hk | hk | hk | hk<;>simp only [hk]<;>simp [Bool.and_assoc]
theorem Zji (n:Nat) (hn:3≤n) (a b:Int):NE n [a,b]=some (if a=0 then b else a):=by
 obtain ⟨m,rfl⟩:∃ m,n=m+3:=⟨n-3,by omega⟩
 rw [NE,Iz]
 simp only [List.length_cons,List.length_nil]
 rw [Ai (by simp),show BJ [a,b] 0=some a from rfl]
 simp only [Af]
 by_cases h:a=0
 ·rw [Ah h,Aj (by decide),Ai (by decide),Ai h,Iz]
  simp only [List.length_cons,List.length_nil]
  rw [Ai (by simp),show BJ [a,b] (0+1)=some b from rfl]
  simp only [Af]
  by_cases h2:b=0
  ·rw [Ah h2,Aj (by decide),Ai (by decide),Iz]
   simp only [List.length_cons,List.length_nil]
   rw [Aj (by simp),NZ,h2]
  ·rw [Ag h2,Ai (by decide)]
 ·rw [Ag h,Ai (by decide),Aj h]
theorem Zfk (n:Nat) (hn:3≤n) (v:Vl) (hfl:v.fields.length<n) (hs:v.fields.length≤1000000000000) (hv:v.ok) (h1:¬ F5 v=true) (h2:¬ (v.kind<1∨10<v.kind)) (h3:¬ Ef v=true) :
  (v.kind=1→G7 v=Gs v)∧(v.kind=2→G8 v=Gs v)∧(v.kind=3→JZ n v=some (Gs v))∧(v.kind=4→Ko v=some (Gs v))∧(v.kind=5→Hf v=Gs v) ∧
  (v.kind=6→Hh v=Gs v)∧(v.kind=7→GY v=Gs v)∧(v.kind=8→G1 v=Gs v)∧(v.kind=9→Kt n v=some (Gs v))∧(v.kind=10→I6 v=some (Gs v)):=by
 obtain ⟨d,_,i⟩:=v.ok_eq.1 hv
 have f:∀ p∈v.fields,p.1.size≤maxLen:=fun p g=>Za4 (by have:=(i p g).1;omega)
 have c:v.text.size≤maxLen:=Za4 d
 rw [Gs,Aj h1,Aj h2,Aj h3]
 refine ⟨fun a=>?_,fun a=>?_,fun a=>?_,fun a=>?_,fun a=>?_,fun a=>?_,fun a=>?_,fun a=>?_,fun a=>?_,fun a=>?_⟩
 ·simp [a,G7,B5,Cd]
 ·have b:v.scale=0:=by
   rw [Ef] at h3
   simp [a] at h3
   exact h3.1.1.1
  simp [a,b,G8,B5,Cd]
 ·rw [JZ,Zji n hn]
  simp [a,B5,Cd]
  by_cases q:v.int < -999999999999999∨999999999999999<v.int
  ·simp [q];omega
  ·simp [q];omega
 ·rw [Ko]
  simp only [a,DC,HH,Ai c]
  simp
  (repeat' split)<;>first | rfl | (exfalso;omega) | simp_all
 ·simp [a,Hf,DC]
  (repeat' split)<;>first | rfl | (exfalso;omega) | simp_all
 ·simp [a,Hh,B5,Cd]
 ·simp [a,GY,B5,Cd]
 ·simp [a,G1,DC]
  (repeat' split)<;>first | rfl | (exfalso;omega) | simp_all
 ·rw [Kt]
  by_cases h:64<v.fields.length
  ·simp [a,DC,h,show (64:Int)<(v.fields.length:Int) by omega]
  ·have e:=Zb2 n v hs f v.fields.length n 0 (by omega) hfl
   simp only [List.drop_zero] at e
   simp only [a,DC,Ag (show ¬ (64:Int)<(v.fields.length:Int) by omega),Bool.false_eq_true,if_false,decide_true,Bool.not_true,Aj h]
   exact e
 ·rw [I6,Ai c]
  simp only [a,DC]
  simp
  (repeat' split)<;>first | rfl | (exfalso;omega) | simp_all
theorem Zhs (n:Nat) (hn:3≤n) (lv:Nat) (v:Vl) (rest:List (Nat × Vl)) (c:Int) (hfl:v.fields.length<n) (hs:v.fields.length≤1000000000000) (hv:v.ok) :
  Bv n ((lv,v)::rest) c=if A9 (c+1) then (if 4096<c+1 then some 9 else if 8<(lv:Int) then some 23 else if Gs v=0 then Bv n rest (c+1) else some (Gs v)) else none:=by
 rw [Bv]
 by_cases hI:A9 (c+1)
 rotate_left
 ·rw [Aj hI,Aj hI]
 rw [Ai hI,Ai hI]
 by_cases q1:4096<c+1
 ·rw [Ai q1,Ai (Ah q1)]
 rw [Aj q1,Aj (by simpa using q1)]
 by_cases q2:8<(lv:Int)
 ·rw [Ai q2,Ai (Ah q2)]
 rw [Aj q2,Aj (by simpa using q2)]
 simp only
 by_cases h1:F5 v=true
 ·have:Gs v=19:=by rw [Gs,Ai h1]
  rw [Ai h1,this];rfl
 rw [Aj h1]
 by_cases h2:v.kind<1∨10<v.kind
 ·have:Gs v=11:=by rw [Gs,Aj h1,Ai h2]
  rw [Ai (by simpa using h2),this];rfl
 rw [Aj (by simpa using h2),Zib v h2]
 by_cases h3:Ef v=true
 ·have:Gs v=3:=by rw [Gs,Aj h1,Aj h2,Ai h3]
  rw [h3,this];rfl
 rw [Bool.eq_false_iff.2 h3]
 obtain ⟨b,f,k,g,l,i,j,h,d,a⟩:=Zfk n hn v hfl hs hv h1 h2 h3
 rcases Il h2 with hk | hk | hk | hk | hk | hk | hk | hk | hk | hk
 ·have e:=b hk;by_cases z:Gs v=0<;>simp [hk,e,z]
 ·have e:=f hk;by_cases z:Gs v=0<;>simp [hk,e,z]
 ·have e:=k hk;by_cases z:Gs v=0<;>simp [hk,e,z]
 ·have e:=g hk;by_cases z:Gs v=0<;>simp [hk,e,z]
 ·have e:=l hk;by_cases z:Gs v=0<;>simp [hk,e,z]
 ·have e:=i hk;by_cases z:Gs v=0<;>simp [hk,e,z]
 ·have e:=j hk;by_cases z:Gs v=0<;>simp [hk,e,z]
 ·have e:=h hk;by_cases z:Gs v=0<;>simp [hk,e,z]
 ·have e:=d hk;by_cases z:Gs v=0<;>simp [hk,e,z]
 ·have e:=a hk;by_cases z:Gs v=0<;>simp [hk,e,z]
def W9:List (Nat × Vl)→Int→Int
 | [],_=>0
 | p::r,c=>if 4096<c+1 then 9 else if 8<(p.1:Int) then 23 else if Gs p.2=0 then W9 r (c+1) else Gs p.2
def U7 (v:Vl):Int:=W9 (GU 1 v) 0
theorem Xd {v x:Vl} (h:x∈BS v):x∈v.list∨∃ p∈v.fields,p.2=x:=by
 unfold BS at h
 split at h
 ·exact .inl h
 ·split at h
  ·obtain ⟨p,a,rfl⟩:=List.mem_map.1 h;exact .inr ⟨p,a,rfl⟩
  ·simp at h
theorem N7 {v x:Vl} (h:x∈BS v):x.size<v.size:=by
 rcases Xd h with h | ⟨p,hp,rfl⟩
 ·exact v.list_size x h
 ·exact v.field_size p hp
theorem ZfD {v x:Vl} (hv:v.ok) (h:x∈BS v):x.ok:=by
 obtain ⟨_,b,a⟩:=v.ok_eq.1 hv
 rcases Xd h with h | ⟨p,hp,rfl⟩
 ·exact b x h
 ·exact (a p hp).2
theorem Ze3:∀ (k:Nat) (v:Vl) (lv:Nat),v.size≤k→v.ok→∀ p∈GU lv v,p.2.ok∧p.2.size≤v.size
 | 0,v,lv,h,hv,p,hp=>absurd h (by have:=v.size_eq;omega)
 | k+1,v,lv,h,hv,p,hp=>by
  rw [Rn] at hp
  rcases List.mem_cons.1 hp with rfl | hp
  ·exact ⟨hv,Nat.le_refl _⟩
  ·obtain ⟨x,a,hp⟩:=List.mem_flatMap.1 hp
   have:=N7 a
   obtain ⟨b,c⟩:=Ze3 k x (lv+1) (by omega) (ZfD hv a) p hp
   exact ⟨b,by omega⟩
theorem ZS:∀ (k:Nat) (v:Vl) (lv:Nat),v.size≤k→v.wide=true→∀ p∈GU lv v,p.2.wide=true
 | 0,v,lv,h,hv,p,hp=>absurd h (by have:=v.size_eq;omega)
 | k+1,v,lv,h,hv,p,hp=>by
  rw [Rn] at hp
  rcases List.mem_cons.1 hp with rfl | hp
  ·exact hv
  ·obtain ⟨x,a,hp⟩:=List.mem_flatMap.1 hp
   have:=N7 a
   exact ZS k x (lv+1) (by omega) (W5 hv a) p hp
theorem Px (v:Vl):v.fields.length<v.size:=by have:=Qs v.fields;have:=v.size_eq;omega
theorem WZ (n:Nat) (hn:3≤n):∀ (l:List (Nat × Vl)) (c:Int),(∀ p∈l,p.2.ok∧p.2.fields.length≤1000000000000∧p.2.fields.length<n)→0≤c→c≤4096→Bv n l c=some (W9 l c)
 | [],c,_,_,_=>rfl
 | p::r,c,hl,h1,h2=>by
  obtain ⟨b,e,d⟩:=hl p (List.mem_cons_self ..)
  have:=Px p.2
  rw [show p=(p.1,p.2) from rfl,Zhs n hn p.1 p.2 r c (by omega) (by omega) b,Ai (by unfold A9;omega),W9]
  simp only
  split
  ·rfl
  ·split
   ·rfl
   ·split
    ·exact WZ n hn r (c+1) (fun q a=>hl q (List.mem_cons_of_mem _ a)) (by omega) (by omega)
    ·rfl
theorem U1 (n:Nat) (v:Vl) (hn:v.size+3≤n) (hs:v.depth<4611686018427387904) (hw:v.wide=true) (hv:v.ok):HL n v=some (U7 v):=by
 rw [HL,Ai ⟨hs,hw⟩]
 exact WZ n (by omega) _ 0 (fun p a=>by obtain ⟨b,c⟩:=Ze3 v.size v 1 (Nat.le_refl _) hv p a;exact ⟨b,(p.2.wide_iff.1 (ZS v.size v 1 (Nat.le_refl _) hw p a)).2.1,by have:=Px p.2;omega⟩) (by omega) (by omega)
theorem Xz (n:Nat) (v:Vl) (hn:v.size+3≤n) (hs:v.size<1048576) (hv:v.ok):HL n v=some (U7 v) :=
 U1 n v hn (by have:=v.depth_size;omega) (Ht _ v (Nat.le_refl _) (by omega)) hv
theorem ZH:∀ l:List Vl,EL l=(l.map Vl.size).sum
 | []=>rfl
 | v::r=>by simp [EL,ZH r]
theorem Zag:∀ l:List (ByteArray × Vl),Fg l=(l.map fun p=>p.2.size).sum
 | []=>rfl
 | (_,v)::r=>by simp [Fg,Zag r]
theorem Zdf (v:Vl):((BS v).map Vl.size).sum<v.size:=by
 have c:=v.size_eq
 unfold BS
 split
 ·rw [←ZH];omega
 ·split
  ·rw [List.map_map]
   have:=Zag v.fields
   have e:(v.fields.map (Vl.size∘fun x=>x.2)).sum=Fg v.fields:=this.symm
   omega
  ·simp;omega
def PT {α:Type} (p:α→Bool) (l:List α) (j:Nat):Int :=
 if (l.drop j).findIdx p<(l.drop j).length then (j:Int)+((l.drop j).findIdx p:Nat) else -1
theorem JO {α:Type} (p:α→Bool) (l:List α) (j:Nat) (h:l.length≤j):PT p l j = -1:=by
 unfold PT
 rw [List.drop_eq_nil_of_le h];rfl
theorem H3 {α:Type} (p:α→Bool) (l:List α) (j:Nat) (h:j<l.length):PT p l j=if p l[j]=true then (j:Int) else PT p l (j+1):=by
 unfold PT
 rw [List.drop_eq_getElem_cons h,List.findIdx_cons]
 cases hp:p l[j] with
 | true=>simp;omega
 | false =>
  simp only [cond_false,List.length_cons,Bool.false_eq_true,if_false]
  by_cases q:(l.drop (j+1)).findIdx p<(l.drop (j+1)).length
  ·rw [Ab,Ai q];push_cast;omega
  ·rw [Aa,Aj q]
theorem RX {α:Type} (p:α→Bool) (l:List α):∀ (k j:Nat),j+k=l.length→PT p l j = -1∨∃ i,∃ h:i<l.length,PT p l j=(i:Int)∧p l[i]=true
 | 0,j,h => .inl (JO p l j (by omega))
 | k+1,j,h=>by
  have a:j<l.length:=by omega
  rw [H3 p l j a]
  by_cases hp:p l[j]=true
  ·rw [Ai hp];exact .inr ⟨j,a,rfl,hp⟩
  ·rw [Aj hp];exact RX p l k (j+1) (by omega)
theorem RL (n:Nat) (l:List TF) (p:TF→Bool) (hl:l.length≤1000000000):∀ (k m i:Nat),i+k=l.length→k<m→AX n l (fun x=>some (p x)) m i=some (PT p l i)
 | k,0,i,_,h=>absurd h (Nat.not_lt_zero _)
 | 0,m+1,i,hi,_=>by
  rw [AX,AH,Ac,JO p l i (by omega)]
  rfl
 | k+1,m+1,i,hi,hm=>by
  have a:i<l.length:=by omega
  rw [AX,AH,Ah a]
  simp only [if_true,AK a,Af]
  rw [H3 p l i a]
  by_cases hp:p l[i]=true
  ·rw [Ai hp,Ai hp]
  ·rw [Aj hp,Aj hp,Ai (AG (by omega))]
   exact RL n l p hl k m (i+1) (by omega) (by omega)
def ZbF:TF:=(0,(⟨#[]⟩:ByteArray),0,Ty.mk 0 0 0 0 [] [] [],[])
theorem Zhe (n:Nat) (t:Ty) (p:TF→Bool) (hn:t.size+1450000≤n) (ht:t.small) :
  (t.kind≠9∧t.kind≠10∧Kz n t (fun x=>some (p x))=some (ZbF,false)) ∨
  ((t.kind=9∨t.kind=10)∧((PT p t.fields 0 = -1∧Kz n t (fun x=>some (p x))=some (ZbF,false))∨∃ i,∃ h:i<t.fields.length,PT p t.fields 0=(i:Int)∧Kz n t (fun x=>some (p x))=some (t.fields[i],true))):=by
 obtain ⟨c,f,b⟩:=ht
 have d:=t.lens
 rw [Kz]
 by_cases hk:t.kind=9∨t.kind=10
 ·right
  refine ⟨hk,?_⟩
  rw [Aj (by simp only [Bool.and_eq_true,Bool.not_eq_true',decide_eq_false_iff_not];omega)]
  rw [Bg]
  have e:=RL n t.fields p (by omega) t.fields.length n 0 (by omega) (by omega)
  rw [show ((0:Nat):Int)=0 from rfl] at e
  rw [e]
  simp only [Af]
  rcases RX p t.fields t.fields.length 0 (by omega) with q | ⟨i,hi,q,hp⟩
  ·rw [q];left;exact ⟨rfl,rfl⟩
  ·rw [q];right
   refine ⟨i,hi,rfl,?_⟩
   rw [Ac]
   simp only [Bool.false_eq_true,if_false,AK hi,Af]
   obtain ⟨_,q2,q3,a⟩:=(t.ok_eq.1 b).2.2.2 _ (List.getElem_mem hi)
   have hs:=t.field_size _ (List.getElem_mem hi)
   rw [Ze9 (Hk n) n t.fields[i] (by omega) (by omega) (fun v hv=>Sz n v (by have:=(a v hv).1;omega) (by have:=(a v hv).1;omega)) (Si n _ (by omega) (by omega) q2)]
   rfl
 ·left
  refine ⟨fun h=>hk (.inl h),fun h=>hk (.inr h),?_⟩
  rw [Ai (by simp only [Bool.and_eq_true,Bool.not_eq_true',decide_eq_false_iff_not];omega)]
  rfl
def LE (rec:Ty→Vl→Option Bool) (q:Vl) (g:Ty):Option Bool :=
 (BJ g.elem 0).bind fun b =>
 (rec b q).bind fun h =>
 some (!h)
theorem Zbg (w0:World) (rec:Ty→Vl→Option Bool) (ih:∀ (B:Aq) (Rw:Aw) (L:Av) (a0:Ty) (a1:Vl) (r:Bool) (h:rec a0 a1=some r),ACalls Tryz.prog w0 201 [.agg (a0.cs),.agg (a1.cs)] ⟨B,Rw,L⟩ fun x st=>x = .val (.bool r)∧st=⟨B,Rw,L⟩) (B:Aq) (Rw:Aw) (L:Av) (a0:Vl) (la1:Nat) (a1:Ty) (hla1:B[la1]? = some (a1.cs)) (r:Bool) (h:LE rec a0 a1=some r) :
  ACalls Tryz.prog w0 269 [.agg (a0.cs),.box la1 0] ⟨B,Rw,L⟩ fun x st=>x = .val (.bool r)∧st=⟨B,Rw,L⟩:=by
 rw [LE] at h
 refine hd [.tmp 3] Tryz.func269 Tryz.ntmps269 fun M0 W0 g e d b i f hs=>?_
 simp only [AB]
 have c:=(Ak.1 hla1).1
 have hs:=Ae (As hla1) hs
 exact go (tg (a:=([1,2],[8,3],()))) h hs g e d b f (q1 ih) trivial
def GM (n:Nat)  : Option Int :=
 some ((-1))
def BH (n:Nat) (h:List (ByteArray × Vl)) (y:(ByteArray × Vl)→Option Bool):Nat→Int→Option Int
 | 0,_=>none
 | m+1,b =>
  if decide (b<(h.length:Int)) then
   (BJ h b).bind fun q =>
   (y q).bind fun g =>
   if g then
    some (b)
   else
    if A9 (b+1) then
     (BH n h y m) (b+1)
    else none
  else
   GM n 
def DF (n:Nat) (g:List (ByteArray × Vl)) (b:(ByteArray × Vl)→Option Bool):Option Int :=
 BH n g b n 0
theorem Jp (w0:World) (n:Nat) (B:Aq) (Rw:Aw) (L:Av) (a0:List (ByteArray × Vl)) (fa1:FuncId) (ca1:List AV) (a1:(ByteArray × Vl)→Option Bool) (ha1:∀ (x0:ByteArray × Vl) r,a1 x0=some r→∀ B' rows,B <+: B'→Rw <+: rows→ACalls Tryz.prog w0 fa1 ([.agg (.val (.string x0.1)::(x0.2.cs))]++ca1) ⟨B',rows,L⟩ fun v s=>v = .val (.bool r)∧s=⟨B',rows,L⟩) (r:Int) (h:DF n a0 a1=some r) :
  ACalls Tryz.prog w0 199 [.list (a0.map Ua) .none,.clo fa1 ca1] ⟨B,Rw,L⟩ fun x st=>x=Am r∧st=⟨B,Rw,L⟩:=by
 rw [DF] at h
 refine hd [.tmp 4] Tryz.func199 Tryz.ntmps199 fun M0 W0 j i g c l f hs=>?_
 simp only [AB]
 have b:=Cf (l (.clo fa1 ca1) (by simp))
 refine rg [0,1] hs ?_
 refine AA (fun e st=>Ck e st B Rw L [] [] [] (GM n  = some r)) ?_ ?_
 ·intro K4 k
  refine rg [0,1,7,8] hs ?_
  apply Ar
  refine Az (fun m e st=>∃ (d:Int),Ck e st B Rw L [(0,true,.list (a0.map Ua) .none),(1,true,.clo fa1 ca1),(7,true,Am (a0.length:Int)),(8,true,Am d)] [] [] (BH n a0 a1 m d=some r)) n ⟨0,([]),Rw,ef hs,ef hs,f,h⟩ ?_
  rintro ml6 e st ⟨d,Xl6,Rl6,rfl,rfl,f,h⟩ Ul6 Vl6
  cases ml6 with
  | zero=>cases h
  | succ ml6 =>
  rw [BH] at h
  refine A8 j i g rfl c f (P0 b f) (P0 b f) ?_
  exact go (tg (a:=([0,1,7,8,9],([0,1,7,8],[0,1,5,7,8],[0,1,5,7,8,16],([4],()),[0,1,7,8],[0,1,7,8],()),[],()))) h hs j i g c f (q1 ha1) (q2 k (fun e s=>Vl6 ml6 e s (Nat.lt_succ_self _)))
 ·clear h;rintro e st ⟨Xk3,Rk3,rfl,rfl,f,h⟩
  rw [GM] at h
  refine A8 j i g rfl c f (P0 b f) (P0 b f) ?_
  refine rg [4] hs ?_
  exact rt h hs c f
def IG (g:ByteArray × Vl) (b:ByteArray):Bool :=
 Fv g.1 b
theorem X3 (w0:World) (B:Aq) (Rw:Aw) (L:Av) (a0:ByteArray × Vl) (la1:Nat) (a1:ByteArray) (hla1:B[la1]? = some ([.val (.string a1)])) (r:Bool) (h:IG a0 a1=r) :
  ACalls Tryz.prog w0 267 [.agg (.val (.string a0.1)::(a0.2.cs)),.box la1 0] ⟨B,Rw,L⟩ fun x st=>x = .val (.bool r)∧st=⟨B,Rw,L⟩:=by
 rw [IG] at h
 refine hd [.tmp 3] Tryz.func267 Tryz.ntmps267 fun M0 W0 f e d a g c hs=>?_
 simp only [AB]
 have b:=(Ak.1 hla1).1
 have hs:=Ae (As hla1) hs
 refine rg [1,2] hs ?_
 refine rg [3] hs ?_
 exact rT h hs a c
theorem WM (w0:World) (B:Aq) (Rw:Aw) (L:Av) (a0:ByteArray × Vl) (la1:Nat) (a1:ByteArray) (hla1:B[la1]? = some ([.val (.string a1)])) :
  ACalls Tryz.prog w0 267 [.agg (.val (.string a0.1)::(a0.2.cs)),.box la1 0] ⟨B,Rw,L⟩ fun x st=>x = .val (.bool (IG a0 a1))∧st=⟨B,Rw,L⟩:=X3 w0 B Rw L a0 la1 a1 hla1 _ rfl
def Ph (n:Nat) (q:Vl) (g:ByteArray):Option Int :=
 (DF n q.fields (fun (h:ByteArray × Vl)=>some (IG h g))).bind fun b =>
 some (b)
theorem Zbf (w0:World) (n:Nat) (B:Aq) (Rw:Aw) (L:Av) (a0:Vl) (a1:ByteArray) (r:Int) (h:Ph n a0 a1=some r) :
  ACalls Tryz.prog w0 197 [.agg (a0.cs),.val (.string a1)] ⟨B,Rw,L⟩ fun x st=>x=Am r∧st=⟨B,Rw,L⟩:=by
 rw [Ph] at h
 refine hd [.tmp 4] Tryz.func197 Tryz.ntmps197 fun M0 W0 g e d a j c hs=>?_
 simp only [AB]
 refine rg [2,3] hs ?_
 obtain ⟨k,hy3,h⟩:=bind_some h
 refine rc 2 [4] hs ?_;intro K2 b
 refine Ax _ (Jp w0 n _ _ _ a0.fields 267 [.box (B.length+1) 0] (fun (x0:ByteArray × Vl)=>some (IG x0 a1)) (fun x0 r hx i rows' hB' f=>by cases hx;exact WM w0 _ _ _ x0 _ a1 (D7 hB' ev)) _ hy3) (hv hs) ?_
 refine ne hs b ?_
 clear b
 exact rt h hs a c
def Nl (n:Nat) (g:Vl) (q:ByteArray):Option (Vl × Bool) :=
 (Ph n g q).bind fun h =>
 if (!(decide (g.kind=9)))||(decide (h<0)) then
  some ((Vl.mk 0 0 0 (⟨#[]⟩:ByteArray) ([]) ([]),false))
 else
  (BJ g.fields h).bind fun y =>
  (DX n y.2).bind fun b =>
  some ((b,true))
theorem ZbX (w0:World) (n:Nat) (B:Aq) (Rw:Aw) (L:Av) (a0:Vl) (a1:ByteArray) (r:Vl × Bool) (h:Nl n a0 a1=some r) :
  ACalls Tryz.prog w0 207 [.agg (a0.cs),.val (.string a1)] ⟨B,Rw,L⟩ fun x st=>x = .tup [.agg (r.1.cs),.val (.bool r.2)]∧st=⟨B,Rw,L⟩:=by
 rw [Nl] at h
 refine hd [.cell 4 34,.tmp 5] Tryz.func207 Tryz.ntmps207 fun M0 W0 f d c b g e hs=>?_
 simp only [AB]
 exact go (tg (a:=([1,2,4],[2,4,6],[2,4,6,16],([4,5],()),[2,4,6],[4,5],()))) h hs f d c b e (q2 (Zbf w0 n) (Ju w0 n)) trivial
def LC (n:Nat) (b:Int × ByteArray × Int × Ty × List Vl) (g:Vl):Option Bool :=
 (Nl n g b.2.1).bind fun h =>
 some ((!h.2)&&(!(decide (b.2.2.1=2))))
theorem ZbT (w0:World) (n:Nat) (B:Aq) (Rw:Aw) (L:Av) (a0:Int × ByteArray × Int × Ty × List Vl) (la1:Nat) (a1:Vl) (hla1:B[la1]? = some (a1.cs)) (r:Bool) (h:LC n a0 a1=some r) :
  ACalls Tryz.prog w0 270 [.agg (Am a0.1::(.val (.string a0.2.1)::(Am a0.2.2.1::((a0.2.2.2.1.cs)++([.list (a0.2.2.2.2.map Dw) .none]))))),.box la1 0] ⟨B,Rw,L⟩ fun x st=>x = .val (.bool r)∧st=⟨B,Rw,L⟩:=by
 rw [LC] at h
 refine hd [.tmp 3] Tryz.func270 Tryz.ntmps270 fun M0 W0 g e d b i f hs=>?_
 simp only [AB]
 have c:=(Ak.1 hla1).1
 have hs:=Ae (As hla1) hs
 exact go (tg (a:=([1,2],[2,5],[3],()))) h hs g e d b f (q1 (ZbX w0 n)) trivial
def AZ (n:Nat) (h:List (Int × ByteArray × Int × Ty × List Vl)) (b:(Int × ByteArray × Int × Ty × List Vl)→Option Bool):Option Bool :=
 (Bg n h b).bind fun g =>
 some (decide (0≤g))
theorem D4 (w0:World) (n:Nat) (B:Aq) (Rw:Aw) (L:Av) (a0:List (Int × ByteArray × Int × Ty × List Vl)) (fa1:FuncId) (ca1:List AV) (a1:(Int × ByteArray × Int × Ty × List Vl)→Option Bool) (ha1:∀ (x0:Int × ByteArray × Int × Ty × List Vl) r,a1 x0=some r→∀ B' rows,B <+: B'→Rw <+: rows→ACalls Tryz.prog w0 fa1 ([.agg (Am x0.1::(.val (.string x0.2.1)::(Am x0.2.2.1::((x0.2.2.2.1.cs)++([.list (x0.2.2.2.2.map Dw) .none])))))]++ca1) ⟨B',rows,L⟩ fun v s=>v = .val (.bool r)∧s=⟨B',rows,L⟩) (r:Bool) (h:AZ n a0 a1=some r) :
  ACalls Tryz.prog w0 111 [.list (a0.map CH) .none,.clo fa1 ca1] ⟨B,Rw,L⟩ fun x st=>x = .val (.bool r)∧st=⟨B,Rw,L⟩:=by
 rw [AZ] at h
 refine hd [.tmp 4] Tryz.func111 Tryz.ntmps111 fun M0 W0 m l j b k g hs=>?_
 simp only [AB]
 have e:=Cf (k (.clo fa1 ca1) (by simp))
 refine rg [0,1] hs ?_
 obtain ⟨o,d,h⟩:=bind_some h
 refine rc 2 [4] hs ?_;intro K2 c
 refine Ax _ (HQ w0 n _ _ _ a0 fa1 ca1 a1 (fun x0 r i f a q1 q2=>ha1 x0 r i f a (List.IsPrefix.trans px q1) (g.pre.trans q2)) _ d) (hv hs) ?_
 refine ne hs c ?_
 clear c
 exact rt h hs b g
def GL (n:Nat)  : Option Int :=
 some ((-1))
def BG (n:Nat) (h:List Vl) (y:Vl→Option Bool):Nat→Int→Option Int
 | 0,_=>none
 | m+1,b =>
  if decide (b<(h.length:Int)) then
   (BJ h b).bind fun q =>
   (y q).bind fun g =>
   if g then
    some (b)
   else
    if A9 (b+1) then
     (BG n h y m) (b+1)
    else none
  else
   GL n 
def E5 (n:Nat) (g:List Vl) (b:Vl→Option Bool):Option Int :=
 BG n g b n 0
theorem Oy (w0:World) (n:Nat) (B:Aq) (Rw:Aw) (L:Av) (a0:List Vl) (fa1:FuncId) (ca1:List AV) (a1:Vl→Option Bool) (ha1:∀ (x0:Vl) r,a1 x0=some r→∀ B' rows,B <+: B'→Rw <+: rows→ACalls Tryz.prog w0 fa1 ([.agg (x0.cs)]++ca1) ⟨B',rows,L⟩ fun v s=>v = .val (.bool r)∧s=⟨B',rows,L⟩) (r:Int) (h:E5 n a0 a1=some r) :
  ACalls Tryz.prog w0 314 [.list (a0.map Dw) .none,.clo fa1 ca1] ⟨B,Rw,L⟩ fun x st=>x=Am r∧st=⟨B,Rw,L⟩:=by
 rw [E5] at h
 refine hd [.tmp 4] Tryz.func314 Tryz.ntmps314 fun M0 W0 j i g c l f hs=>?_
 simp only [AB]
 have b:=Cf (l (.clo fa1 ca1) (by simp))
 refine rg [0,1] hs ?_
 refine AA (fun e st=>Ck e st B Rw L [] [] [] (GL n  = some r)) ?_ ?_
 ·intro K4 k
  refine rg [0,1,7,8] hs ?_
  apply Ar
  refine Az (fun m e st=>∃ (d:Int),Ck e st B Rw L [(0,true,.list (a0.map Dw) .none),(1,true,.clo fa1 ca1),(7,true,Am (a0.length:Int)),(8,true,Am d)] [] [] (BG n a0 a1 m d=some r)) n ⟨0,([]),Rw,ef hs,ef hs,f,h⟩ ?_
  rintro ml6 e st ⟨d,Xl6,Rl6,rfl,rfl,f,h⟩ Ul6 Vl6
  cases ml6 with
  | zero=>cases h
  | succ ml6 =>
  rw [BG] at h
  refine A8 j i g rfl c f (P0 b f) (P0 b f) ?_
  exact go (tg (a:=([0,1,7,8,9],([0,1,7,8],[0,1,5,7,8],[0,1,5,7,8,16],([4],()),[0,1,7,8],[0,1,7,8],()),[],()))) h hs j i g c f (q1 ha1) (q2 k (fun e s=>Vl6 ml6 e s (Nat.lt_succ_self _)))
 ·clear h;rintro e st ⟨Xk3,Rk3,rfl,rfl,f,h⟩
  rw [GL] at h
  refine A8 j i g rfl c f (P0 b f) (P0 b f) ?_
  refine rg [4] hs ?_
  exact rt h hs c f
def CB (n:Nat) (h:List Vl) (b:Vl→Option Bool):Option Bool :=
 (E5 n h b).bind fun g =>
 some (decide (0≤g))
theorem M5 (w0:World) (n:Nat) (B:Aq) (Rw:Aw) (L:Av) (a0:List Vl) (fa1:FuncId) (ca1:List AV) (a1:Vl→Option Bool) (ha1:∀ (x0:Vl) r,a1 x0=some r→∀ B' rows,B <+: B'→Rw <+: rows→ACalls Tryz.prog w0 fa1 ([.agg (x0.cs)]++ca1) ⟨B',rows,L⟩ fun v s=>v = .val (.bool r)∧s=⟨B',rows,L⟩) (r:Bool) (h:CB n a0 a1=some r) :
  ACalls Tryz.prog w0 268 [.list (a0.map Dw) .none,.clo fa1 ca1] ⟨B,Rw,L⟩ fun x st=>x = .val (.bool r)∧st=⟨B,Rw,L⟩:=by
 rw [CB] at h
 refine hd [.tmp 4] Tryz.func268 Tryz.ntmps268 fun M0 W0 m l j b k g hs=>?_
 simp only [AB]
 have e:=Cf (k (.clo fa1 ca1) (by simp))
 refine rg [0,1] hs ?_
 obtain ⟨o,d,h⟩:=bind_some h
 refine rc 2 [4] hs ?_;intro K2 c
 refine Ax _ (Oy w0 n _ _ _ a0 fa1 ca1 a1 (fun x0 r i f a q1 q2=>ha1 x0 r i f a (List.IsPrefix.trans px q1) (g.pre.trans q2)) _ d) (hv hs) ?_
 refine ne hs c ?_
 clear c
 exact rt h hs b g
def ID (n:Nat)  : Option Int :=
 some ((-1))
def Cj (n:Nat) (h:List ByteArray) (q:ByteArray):Nat→Int→Option Int
 | 0,_=>none
 | m+1,b =>
  if decide (b<(h.length:Int)) then
   (BJ h b).bind fun g =>
   if Fv q g then
    some (b)
   else
    if A9 (b+1) then
     (Cj n h q m) (b+1)
    else none
  else
   ID n 
def GO (n:Nat) (g:List ByteArray) (b:ByteArray):Option Int :=
 Cj n g b n 0
theorem QO (w0:World) (n:Nat) (B:Aq) (Rw:Aw) (L:Av) (a0:List ByteArray) (a1:ByteArray) (r:Int) (h:GO n a0 a1=some r) :
  ACalls Tryz.prog w0 205 [.list (a0.map BE) .none,.val (.string a1)] ⟨B,Rw,L⟩ fun x st=>x=Am r∧st=⟨B,Rw,L⟩:=by
 rw [GO] at h
 refine hd [.tmp 4] Tryz.func205 Tryz.ntmps205 fun M0 W0 j g f b k d hs=>?_
 simp only [AB]
 refine rg [0,1] hs ?_
 refine AA (fun e st=>Ck e st B Rw L [] [] [] (ID n  = some r)) ?_ ?_
 ·intro K4 i
  refine rg [0,1,7,8] hs ?_
  apply Ar
  refine Az (fun m e st=>∃ (c:Int),Ck e st B Rw L [(0,true,.list (a0.map BE) .none),(1,true,.val (.string a1)),(7,true,Am (a0.length:Int)),(8,true,Am c)] [] [] (Cj n a0 a1 m c=some r)) n ⟨0,([]),Rw,ef hs,ef hs,d,h⟩ ?_
  rintro ml6 e st ⟨c,Xl6,Rl6,rfl,rfl,d,h⟩ Ul6 Vl6
  cases ml6 with
  | zero=>cases h
  | succ ml6 =>
  rw [Cj] at h
  exact go (tg (a:=([0,1,7,8,9],([0,1,7,8],[0,1,5,7,8],[0,1,5,7,8,16],([4],()),[0,1,7,8],[0,1,7,8],()),[],()))) h hs j g f b d trivial (q2 i (fun e s=>Vl6 ml6 e s (Nat.lt_succ_self _)))
 ·clear h;rintro e st ⟨Xk3,Rk3,rfl,rfl,d,h⟩
  rw [ID] at h
  refine td j g f b d ?_
  refine rg [4] hs ?_
  exact rt h hs b d
def Dz (n:Nat) (h:List ByteArray) (b:ByteArray):Option Bool :=
 (GO n h b).bind fun g =>
 some (decide (0≤g))
theorem Oz (w0:World) (n:Nat) (B:Aq) (Rw:Aw) (L:Av) (a0:List ByteArray) (a1:ByteArray) (r:Bool) (h:Dz n a0 a1=some r) :
  ACalls Tryz.prog w0 133 [.list (a0.map BE) .none,.val (.string a1)] ⟨B,Rw,L⟩ fun x st=>x = .val (.bool r)∧st=⟨B,Rw,L⟩:=by
 rw [Dz] at h
 refine hd [.tmp 4] Tryz.func133 Tryz.ntmps133 fun M0 W0 f d c b g e hs=>?_
 simp only [AB]
 exact go (tg (a:=([0,1],[4],()))) h hs f d c b e (q1 (QO w0 n)) trivial
def Pl (rec:Ty→Vl→Option Bool) (n:Nat) (q:Ty) (g:Vl):Option Bool :=
 (AZ n q.fields (fun (h:Int × ByteArray × Int × Ty × List Vl)=>LC n h g)).bind fun b =>
 some (!b)
def QW (rec:Ty→Vl→Option Bool) (n:Nat)  : Option Bool :=
 some (true)
def IL (rec:Ty→Vl→Option Bool) (n:Nat) (z:Ty) (q:Vl):Nat→Int→Option Bool
 | 0,_=>none
 | m+1,b =>
  if decide (b<(q.fields.length:Int)) then
   (BJ q.fields b).bind fun g =>
   (Jt n z g.1).bind fun h =>
   if !h.2 then
    some (false)
   else
    (rec h.1.2.2.2.1 g.2).bind fun y =>
    if !y then
     some (false)
    else
     if A9 (b+1) then
      (IL rec n z q m) (b+1)
     else none
  else
   Pl rec n z q 
def Cm (rec:Ty→Vl→Option Bool) (n:Nat) (b:Ty) (g:Vl) (h:Bool):Option Bool :=
 if h then
  some ((decide (b.min≤g.int)&&decide (g.int≤b.max))&&(decide (g.scale=b.scale)))
 else
  if decide (b.kind=4) then
   if decide (0<(b.words.length:Int)) then
    (Dz n b.words g.text).bind fun y =>
    some (y)
   else
    some (decide (b.min≤(g.text.size:Int))&&decide ((g.text.size:Int)≤b.max))
  else
   if decide (b.kind=5) then
    some (decide (b.min≤(g.text.size:Int))&&decide ((g.text.size:Int)≤b.max))
   else
    if decide (b.kind=8) then
     if decide (b.min≤(g.list.length:Int))&&decide ((g.list.length:Int)≤b.max) then
      (CB n g.list (fun (x0:Vl)=>LE rec x0 b)).bind fun y36 =>
      some (!y36)
     else
      some (false)
    else
     if decide (b.kind=10) then
      (Jt n b g.text).bind fun q =>
      if q.2 then
       (BJ g.list 0).bind fun x43 =>
       (rec q.1.2.2.2.1 x43).bind fun z =>
       some (z)
      else
       some (false)
     else
      if decide (b.kind=9) then
       IL rec n b g n 0
      else
       QW rec n 
def Uw (rec:Ty→Vl→Option Bool) (n:Nat) (b:Ty) (g:Vl):Option Bool :=
 if !(decide (g.kind=b.kind)) then
  some (false)
 else
  if decide (b.kind=2) then
   Cm rec n b g true
  else
   if decide (b.kind=6) then
    Cm rec n b g true
   else
    if decide (b.kind=7) then
     Cm rec n b g true
    else
     Cm rec n b g (decide (b.kind=3))
def JS:Nat→Ty→Vl→Option Bool
 | 0,_,_=>none
 | n+1,g,b=>Uw (JS n) n g b
def X5 (w0:World) (F:Ty→Vl→Option Bool):Prop:=∀ (B:Aq) (Rw:Aw) (L:Av) (g:Ty) (b:Vl) (r:Bool),F g b=some r→ACalls Tryz.prog w0 201 [.agg (g.cs),.agg (b.cs)] ⟨B,Rw,L⟩ fun x st=>x = .val (.bool r)∧st=⟨B,Rw,L⟩
theorem ZaT (w0:World) (rec:Ty→Vl→Option Bool) (ih:X5 w0 rec) (n:Nat):X5 w0 (Uw rec n):=by
 intro B Rw L a0 a1 r h
 rw [Uw] at h
 refine hd [.tmp 4] Tryz.func201 Tryz.ntmps201 fun M0 W0 k g f b F i hs=>?_
 simp only [AB]
 refine rg [2,3] hs ?_
 apply An;intro K2 q
 refine rg [2,3,15] hs ?_
 refine BL h hs ?_ ?_<;>intro hs h
 ·refine rg [4] hs ?_
  exact rt h hs b i
 refine sk [2,3] hs q ?_
 clear q
 refine AA (fun e st=>Ck e st B Rw L [] [a0.cs,a1.cs] [] (QW rec n  = some r)) ?_ ?_
 ·intro K8 x
  refine rg [2,3,17] hs ?_
  apply Ar
  refine AA (fun e st=>∃ (d:Bool),Ck e st B Rw L [(2,true,.box B.length 0),(3,true,.box (B.length+1) 0),(17,true,Am a0.kind),(18,true,.val (.bool d))] [a0.cs,a1.cs] [] (Cm rec n a0 a1 d=some r)) ?_ ?_
  ·intro K12 v
   exact go (tg (a:=([2,3,17,18],([2,3,17,18],()),[2,3,17,18],([2,3,17,18],()),[2,3,17,18],([2,3,17,18],()),[2,3,17,18],()))) h hs k g f b i trivial (q1 v)
  ·clear h;rintro e st ⟨d,Xk11,Rk11,rfl,rfl,i,h⟩
   rw [Cm] at h
   refine td k g f b i ?_
   refine BL h hs ?_ ?_<;>intro hs h
   ·exact go (tg (a:=([4],()))) h hs k g f b i (q1 (Ri w0)) trivial
   refine rg [2,3,17,37] hs ?_
   refine BL h hs ?_ ?_<;>intro hs h
   ·exact go (tg (a:=([2,3,42],([4],()),[2,3],[4],()))) h hs k g f b i (q2 (Oz w0 n) (Ri w0)) trivial
   refine rg [2,3,17,56] hs ?_
   refine BL h hs ?_ ?_<;>intro hs h
   ·exact go (tg (a:=([4],()))) h hs k g f b i (q1 (Ri w0)) trivial
   refine rg [2,3,17,66] hs ?_
   refine BL h hs ?_ ?_<;>intro hs h
   ·apply An;intro K34 j
    rcases Bool.eq_false_or_eq_true (decide (a0.min≤(a1.list.length:Int))&&decide ((a1.list.length:Int)≤a0.max)) with hf35 | hf35
    ·replace h:=Be h hf35
     obtain ⟨D,w,h⟩:=bind_some h
     have hs:=Ae hf35 hs
     refine rk 3 [4] hs ?_
     refine Ax _ (Ri w0 _ _ _ (a1.list.length:Int) a0.min a0.max) (hv hs) ?_
     refine nc hs ?_
     refine Ax _ (M5 w0 n _ _ _ a1.list 269 [.box B.length 0] (fun (o:Vl)=>LE rec o a0) (fun o r y E rows' p z=>by exact Zbg w0 rec ih _ _ _ o _ a0 (D7 p (ef hs)) _ y) _ w) (hv hs) ?_
     refine ne hs j ?_
     clear j
     exact rt h hs b i
    ·replace h:=Bh h hf35
     exact go (tg (a:=([4],()))) h (Ae hf35 hs) k g f b i (q1 (Ri w0)) (q1 j)
   refine rg [2,3,17,83] hs ?_
   refine BL h hs ?_ ?_<;>intro hs h
   ·exact go (tg (a:=([3,5,6],([11,4],()),[11,4],()))) h hs k g f b i (q2 (QH w0 n) ih) trivial
   refine rg [2,3,102] hs ?_
   refine BL h hs ?_ ?_<;>intro hs h
   ·refine AA (fun e st=>Ck e st B Rw L [(2,true,.box B.length 0),(3,true,.box (B.length+1) 0)] [a0.cs,a1.cs] [] (Pl rec n a0 a1  = some r)) ?_ ?_
    ·intro K49 t
     refine rg [2,3,105,106,107] hs ?_
     apply Ar
     refine Az (fun m e st=>∃ (c:Int),Ck e st B Rw L [(2,true,.box B.length 0),(3,true,.box (B.length+1) 0),(105,true,.list (a1.fields.map Ua) .none),(106,true,Am (a1.fields.length:Int)),(107,true,Am c)] [a0.cs,a1.cs] [] (IL rec n a0 a1 m c=some r)) n ⟨0,([]),Rk11,ef hs,ef hs,i,h⟩ ?_
     rintro ml51 e st ⟨c,Xl51,Rl51,rfl,rfl,i,h⟩ Ul51 Vl51
     cases ml51 with
     | zero=>cases h
     | succ ml51 =>
     rw [IL] at h
     exact go (tg (a:=([2,3,105,106,107,108],([2,3,105,106,107],[2,3,8,105,106,107],[2,3,8,9,10,105,106,107],([2,3,105,106,107,127],[4],()),[2,3,105,106,107,127],([4],()),[2,3,105,106,107],[2,3,105,106,107],()),[2,3],()))) h hs k g f b i (q2 (QH w0 n) ih) (q2 t (fun e s=>Vl51 ml51 e s (Nat.lt_succ_self _)))
    ·clear h;rintro e st ⟨Xk48,Rk48,rfl,rfl,i,h⟩
     rw [Pl] at h
     refine td k g f b i ?_
     obtain ⟨C,u,h⟩:=bind_some h
     refine rc 2 [4] hs ?_;intro K68 l
     refine Ax _ (D4 w0 n _ _ _ a0.fields 270 [.box (B.length+1) 0] (fun (o:Int × ByteArray × Int × Ty × List Vl)=>LC n o a1) (fun o r y E rows' p z=>by exact ZbT w0 n _ _ _ o _ a1 (D7 p (ef hs)) _ y) _ u) (hv hs) ?_
     refine ne hs l ?_
     clear l
     exact rt h hs b i
   refine sk [] hs x ?_
   exact ⟨([]),Rk11,ef hs,ef hs,i,h⟩
 ·clear h;rintro e st ⟨Xk7,Rk7,rfl,rfl,i,h⟩
  rw [QW] at h
  refine td k g f b i ?_
  refine rg [4] hs ?_
  exact rt h hs b i
theorem Zax (w0:World):∀ n:Nat,X5 w0 (JS n)
 | 0=>fun _ _ _ _ _ _ h=>(nomatch h)
 | n+1=>ZaT w0 (JS n) (Zax w0 n) n
def J8 (n:Nat) (q:Ty) (b:Vl):Option Bool :=
 (HL n b).bind fun g =>
 if decide (g=0) then
  (JS n q b).bind fun h =>
  some (h)
 else
  some (false)
theorem Yg (w0:World) (hT:Lib.Utf8Tabs 2 3 w0) (n:Nat) (B:Aq) (Rw:Aw) (L:Av) (a0:Ty) (a1:Vl) (r:Bool) (h:J8 n a0 a1=some r) :
  ACalls Tryz.prog w0 123 [.agg (a0.cs),.agg (a1.cs)] ⟨B,Rw,L⟩ fun x st=>x = .val (.bool r)∧st=⟨B,Rw,L⟩:=by
 rw [J8] at h
 refine hd [.tmp 4] Tryz.func123 Tryz.ntmps123 fun M0 W0 f d c b g e hs=>?_
 simp only [AB]
 exact go (tg (a:=([2,3],([4],()),[4],()))) h hs f d c b e (q2 (QP w0 hT n) (Zax w0 n)) trivial
def E2 (g:Int × ByteArray × Int × Ty × List Vl) (b:Int × ByteArray × Int × Ty × List Vl):Bool :=
 (Fv g.2.1 b.2.1)||(decide (g.1=b.1))
theorem YG (w0:World) (B:Aq) (Rw:Aw) (L:Av) (a0:Int × ByteArray × Int × Ty × List Vl) (la1:Nat) (a1:Int × ByteArray × Int × Ty × List Vl) (hla1:B[la1]? = some (Am a1.1::(.val (.string a1.2.1)::(Am a1.2.2.1::((a1.2.2.2.1.cs)++([.list (a1.2.2.2.2.map Dw) .none])))))) (r:Bool) (h:E2 a0 a1=r) :
  ACalls Tryz.prog w0 308 [.agg (Am a0.1::(.val (.string a0.2.1)::(Am a0.2.2.1::((a0.2.2.2.1.cs)++([.list (a0.2.2.2.2.map Dw) .none]))))),.box la1 0] ⟨B,Rw,L⟩ fun x st=>x = .val (.bool r)∧st=⟨B,Rw,L⟩:=by
 rw [E2] at h
 refine hd [.tmp 3] Tryz.func308 Tryz.ntmps308 fun M0 W0 f e d a g c hs=>?_
 simp only [AB]
 have b:=(Ak.1 hla1).1
 have hs:=Ae (As hla1) hs
 refine rg [1,2] hs ?_
 refine rg [3] hs ?_
 exact rT h hs a c
theorem WF (w0:World) (B:Aq) (Rw:Aw) (L:Av) (a0:Int × ByteArray × Int × Ty × List Vl) (la1:Nat) (a1:Int × ByteArray × Int × Ty × List Vl) (hla1:B[la1]? = some (Am a1.1::(.val (.string a1.2.1)::(Am a1.2.2.1::((a1.2.2.2.1.cs)++([.list (a1.2.2.2.2.map Dw) .none])))))) :
  ACalls Tryz.prog w0 308 [.agg (Am a0.1::(.val (.string a0.2.1)::(Am a0.2.2.1::((a0.2.2.2.1.cs)++([.list (a0.2.2.2.2.map Dw) .none]))))),.box la1 0] ⟨B,Rw,L⟩ fun x st=>x = .val (.bool (E2 a0 a1))∧st=⟨B,Rw,L⟩:=YG w0 B Rw L a0 la1 a1 hla1 _ rfl
def Nq (n:Nat) (h:Ty) (g:Int):Option Int :=
 (BJ h.fields g).bind fun b =>
 if b.2.1.size≤maxLen then
  if !(FZ b.2.1) then
   some (12)
  else
   if !(decide (1≤b.1)&&decide (b.1≤9999)) then
    some (2)
   else
    if 0≤0∧0≤g∧g≤(h.fields.length:Int) then
     (AZ n (h.fields.take g.toNat) (fun (y:Int × ByteArray × Int × Ty × List Vl)=>some (E2 y b))).bind fun q =>
     if q then
      some (7)
     else
      if (!(decide (1≤b.2.2.1)&&decide (b.2.2.1≤3)))||((decide (h.kind=10))&&(!(decide (b.2.2.1=1)))) then
       some (11)
      else
       if (decide (b.2.2.1=3))&&(decide ((b.2.2.2.2.length:Int)=0)) then
        some (4)
       else
        if (decide (1<(b.2.2.2.2.length:Int)))||((!(decide (b.2.2.1=3)))&&(decide (0<(b.2.2.2.2.length:Int)))) then
         some (3)
        else
         some (0)
    else none
 else none
theorem Za6 (w0:World) (n:Nat) (B:Aq) (Rw:Aw) (L:Av) (a0:Ty) (a1:Int) (r:Int) (h:Nq n a0 a1=some r) :
  ACalls Tryz.prog w0 255 [.agg (a0.cs),Am a1] ⟨B,Rw,L⟩ fun x st=>x=Am r∧st=⟨B,Rw,L⟩:=by
 rw [Nq] at h
 refine hd [.tmp 4] Tryz.func255 Tryz.ntmps255 fun M0 W0 v l j b y o hs=>?_
 simp only [AB]
 refine rg [1,2] hs ?_
 obtain ⟨x3,k,h⟩:=bind_some h
 obtain ⟨t,s,c⟩:=AY k
 have d:=AO (f:=CH) c
 have hs:=Ae d hs
 refine rg [1,2,5] hs ?_
 apply An;intro K4 p
 apply Ar
 obtain ⟨m,h⟩:=Au h
 refine rc 2 [1,2,5,11] hs ?_;intro K5 i
 refine Ax _ (PQ w0 _ _ _ x3.2.1 m) (hv hs) ?_
 refine ne hs i ?_
 clear i
 refine BL h hs ?_ ?_<;>intro hs h
 ·refine rg [4] hs ?_
  exact rt h hs b o
 refine rc 2 [1,2,5,16] hs ?_;intro K9 e
 refine Ax _ (Ri w0 _ _ _ x3.1 1 9999) (hv hs) ?_
 refine ne hs e ?_
 clear e
 refine BL h hs ?_ ?_<;>intro hs h
 ·refine rg [4] hs ?_
  exact rt h hs b o
 obtain ⟨q,h⟩:=Au h
 obtain ⟨u,hy14,h⟩:=bind_some h
 refine rc 2 [2,5,21] hs ?_;intro K12 g
 refine Ax _ (D4 w0 n _ _ _ (a0.fields.take a1.toNat) 308 [.box (B.length+1) 0] (fun (x0:Int × ByteArray × Int × Ty × List Vl)=>some (E2 x0 x3)) (fun x0 r hx z rows' hB' w=>by cases hx;exact WF w0 _ _ _ x0 _ x3 (D7 hB' (ef hs))) _ hy14) (hv hs) ?_
 exact go (tg (a:=(([4],()),[5,28],([4],()),[5,43],([4],()),[53],([4],()),[],[4],()))) h hs v l j b o (q1 (Ri w0)) (q2 g p)
def IH  (b:Bool):Int :=
 if b then
  3
 else
  0
def LY (b:Ty) (g:Lim):Int :=
 if (!g.bounds)&&((!(decide (b.min=0)))||(!(decide (b.max=0)))) then
  IH  true
 else
  if (!g.scale)&&(!(decide (b.scale=0))) then
   IH  true
  else
   if (!g.text)&&(decide (0<(b.words.length:Int))) then
    IH  true
   else
    if (!g.list)&&(decide (0<(b.elem.length:Int))) then
     IH  true
    else
     IH  ((!g.fields)&&(decide (0<(b.fields.length:Int))))
theorem ZcW (w0:World) (B:Aq) (Rw:Aw) (L:Av) (a0:Ty) (a1:Lim) (r:Int) (h:LY a0 a1=r) :
  ACalls Tryz.prog w0 253 [.agg (a0.cs),.agg (.val (.string a1.name)::(Am a1.low::(Am a1.high::(.val (.bool a1.bounds)::(.val (.bool a1.scale)::(.val (.bool a1.text)::(.val (.bool a1.list)::([.val (.bool a1.fields)]))))))))] ⟨B,Rw,L⟩ fun x st=>x=Am r∧st=⟨B,Rw,L⟩:=by
 rw [LY] at h
 refine hd [.tmp 4] Tryz.func253 Tryz.ntmps253 fun M0 W0 k f d c l g hs=>?_
 simp only [AB]
 refine rg [2,3] hs ?_
 apply An;intro K2 i
 apply Ar
 refine AA (fun e st=>∃ (b:Bool),Ck e st B Rw L [(5,true,.val (.bool b))] [a0.cs,.val (.string a1.name)::(Am a1.low::(Am a1.high::(.val (.bool a1.bounds)::(.val (.bool a1.scale)::(.val (.bool a1.text)::(.val (.bool a1.list)::([.val (.bool a1.fields)])))))))] [] (IH  b=r)) ?_ ?_
 ·intro K5 j
  exact go (tg (a:=([2,3,5],([5],()),[2,3,5],([5],()),[2,3,5],([5],()),[2,3,5],([5],()),[5],()))) h hs k f d c g trivial (q1 j)
 ·clear h;rintro e st ⟨b,Xk4,Rk4,rfl,rfl,g,h⟩
  rw [IH] at h
  exact go (tg (a:=(([4],()),[],[4],()))) h hs k f d c g trivial (q1 i)
theorem Zbr (w0:World) (B:Aq) (Rw:Aw) (L:Av) (a0:Ty) (a1:Lim) :
  ACalls Tryz.prog w0 253 [.agg (a0.cs),.agg (.val (.string a1.name)::(Am a1.low::(Am a1.high::(.val (.bool a1.bounds)::(.val (.bool a1.scale)::(.val (.bool a1.text)::(.val (.bool a1.list)::([.val (.bool a1.fields)]))))))))] ⟨B,Rw,L⟩ fun x st=>x=Am (LY a0 a1)∧st=⟨B,Rw,L⟩:=ZcW w0 B Rw L a0 a1 _ rfl
def IM  : ((List Lim)) :=
 [Lim.mk (⟨#[]⟩:ByteArray) 0 0 false false false false false,Lim.mk ((⟨#[98,111,111,108]⟩:ByteArray)) 0 0 false false false false false,Lim.mk ((⟨#[105,110,116]⟩:ByteArray)) ((-999999999999999)) 999999999999999 true false false false false,Lim.mk ((⟨#[100,101,99,105,109,97,108]⟩:ByteArray)) ((-999999999999999)) 999999999999999 true true false false false,Lim.mk ((⟨#[116,101,120,116]⟩:ByteArray)) 0 1024 true false true false false,Lim.mk ((⟨#[98,121,116,101,115]⟩:ByteArray)) 0 1024 true false false false false,Lim.mk ((⟨#[100,97,116,101]⟩:ByteArray)) ((-719162)) 2932896 true false false false false,Lim.mk ((⟨#[116,105,109,101]⟩:ByteArray)) ((-62135596800000)) 253402300799999 true false false false false,Lim.mk ((⟨#[108,105,115,116]⟩:ByteArray)) 0 256 true false false true false,Lim.mk ((⟨#[114,101,99,111,114,100]⟩:ByteArray)) 0 0 false false false false true,Lim.mk ((⟨#[118,97,114,105,97,110,116]⟩:ByteArray)) 0 0 false false false false true]
theorem ZbH (w0:World) (B:Aq) (Rw:Aw) (L:Av)  (r:(List Lim)) (h:IM  = r) :
  ACalls Tryz.prog w0 252 [] ⟨B,Rw,L⟩ fun x st=>x = .agg (r.flatMap fun x=>(X9 x).cells)∧st=⟨B,Rw,L⟩:=by
 rw [IM] at h
 refine hd [.cell 0 259] Tryz.func252 Tryz.ntmps252 fun M0 W0 e d c a f b hs=>?_
 simp only [AB]
 refine rg [0] hs ?_
 refine rg [0] (al hs) ?_
 exact rT h hs a b
theorem Zu (w0:World) (B:Aq) (Rw:Aw) (L:Av)  :
  ACalls Tryz.prog w0 252 [] ⟨B,Rw,L⟩ fun x st=>x = .agg ((IM ).flatMap fun x=>(X9 x).cells)∧st=⟨B,Rw,L⟩:=ZbH w0 B Rw L  _ rfl
def Nz (b:ByteArray):Vl :=
 Vl.mk 4 0 0 b ([]) ([])
theorem ZdE (w0:World) (B:Aq) (Rw:Aw) (L:Av) (a0:ByteArray) (r:Vl) (h:Nz a0=r) :
  ACalls Tryz.prog w0 190 [.val (.string a0)] ⟨B,Rw,L⟩ fun x st=>x = .agg (r.cs)∧st=⟨B,Rw,L⟩:=by
 rw [Nz] at h
 refine hd [.cell 2 34] Tryz.func190 Tryz.ntmps190 fun M0 W0 e d c a f b hs=>?_
 simp only [AB]
 refine rg [0,2] hs ?_
 refine rg [2] hs ?_
 exact rT h hs a b
theorem Zbk (w0:World) (B:Aq) (Rw:Aw) (L:Av) (a0:ByteArray) :
  ACalls Tryz.prog w0 190 [.val (.string a0)] ⟨B,Rw,L⟩ fun x st=>x = .agg ((Nz a0).cs)∧st=⟨B,Rw,L⟩:=ZdE w0 B Rw L a0 _ rfl
def MO (n:Nat)  : Option Int :=
 some (0)
def FY (n:Nat) (h:Ty):Nat→Int→Option Int
 | 0,_=>none
 | m+1,b =>
  if decide (b<(h.words.length:Int)) then
   (BJ h.words b).bind fun g =>
   (HL n (Nz g)).bind fun y =>
   if !(decide (y=0)) then
    some (y)
   else
    if decide (0<b) then
     if A9 (b-1) then
      (BJ h.words (b-1)).bind fun q =>
      if Fv g q then
       some (7)
      else
       if A9 (b-1) then
        if sLt g q then
         some (24)
        else
         if A9 (b+1) then
          (FY n h m) (b+1)
         else none
       else none
     else none
    else
     if A9 (b+1) then
      (FY n h m) (b+1)
     else none
  else
   MO n 
def Nu (n:Nat) (b:Ty):Option Int :=
 if (!(decide (b.min=0)))||(!(decide (b.max=0))) then
  some (3)
 else
  if decide (64<(b.words.length:Int)) then
   some (9)
  else
   FY n b n 0
theorem Zba (w0:World) (hT:Lib.Utf8Tabs 2 3 w0) (n:Nat) (B:Aq) (Rw:Aw) (L:Av) (a0:Ty) (r:Int) (h:Nu n a0=some r) :
  ACalls Tryz.prog w0 254 [.agg (a0.cs)] ⟨B,Rw,L⟩ fun x st=>x=Am r∧st=⟨B,Rw,L⟩:=by
 rw [Nu] at h
 refine hd [.tmp 2] Tryz.func254 Tryz.ntmps254 fun M0 W0 k j g c l d hs=>?_
 simp only [AB]
 refine rg [1] hs ?_
 apply An;intro K2 f
 apply Ar
 refine rg [1,6] hs ?_
 refine BL h hs ?_ ?_<;>intro hs h
 ·refine rg [2] hs ?_
  exact rt h hs c d
 refine rg [1,15] hs ?_
 refine BL h hs ?_ ?_<;>intro hs h
 ·refine rg [2] hs ?_
  exact rt h hs c d
 refine sk [1] hs f ?_
 clear f
 refine AA (fun e st=>Ck e st B Rw L [] [a0.cs] [] (MO n  = some r)) ?_ ?_
 ·intro K11 i
  refine rg [1,21,22,23] hs ?_
  apply Ar
  refine Az (fun m e st=>∃ (b:Int),Ck e st B Rw L [(1,true,.box B.length 0),(21,true,.list (a0.words.map BE) .none),(22,true,Am (a0.words.length:Int)),(23,true,Am b)] [a0.cs] [] (FY n a0 m b=some r)) n ⟨0,([]),Rw,ef hs,ef hs,d,h⟩ ?_
  rintro ml13 e st ⟨b,Xl13,Rl13,rfl,rfl,d,h⟩ Ul13 Vl13
  cases ml13 with
  | zero=>cases h
  | succ ml13 =>
  rw [FY] at h
  exact go (tg (a:=([1,21,22,23,24],([1,21,22,23],[1,3,4,21,22,23],[1,3,4,5,21,22,23],[1,3,4,5,21,22,23,32],([2],()),[1,3,4,21,22,23],([1,3,4,21,22,23,45],([2],()),[1,3,4,21,22,23],[1,21,22,23,57],([2],()),[1,21,22,23],[1,21,22,23],()),[1,3,4,21,22,23,45],[1,3,4,21,22,23],[1,21,22,23,57],[1,21,22,23],[1,21,22,23],()),[],()))) h hs k j g c d (q2 (Zbk w0) (QP w0 hT n)) (q2 i (fun e s=>Vl13 ml13 e s (Nat.lt_succ_self _)))
 ·clear h;rintro e st ⟨Xk10,Rk10,rfl,rfl,d,h⟩
  rw [MO] at h
  refine td k j g c d ?_
  refine rg [2] hs ?_
  exact rt h hs c d
def SZ (n:Nat)  : Option Int :=
 some (0)
def IU (n:Nat) (h:Ty):Nat→Int→Option Int
 | 0,_=>none
 | m+1,b =>
  if decide (b<(h.fields.length:Int)) then
   (Nq n h b).bind fun g =>
   if !(decide (g=0)) then
    some (g)
   else
    if A9 (b+1) then
     (IU n h m) (b+1)
    else none
  else
   SZ n 
def IP (n:Nat) (g:Ty) (b:Bool):Option Int :=
 if b then
  some (4)
 else
  if (decide (g.kind=8))&&(decide (1<(g.elem.length:Int))) then
   some (3)
  else
   if decide (64<(g.fields.length:Int)) then
    some (9)
   else
    IU n g n 0
def LF (n:Nat) (b:Ty):Option Int :=
 if (decide (b.kind=8))&&(decide ((b.elem.length:Int)=0)) then
  IP n b true
 else
  IP n b ((decide (b.kind=10))&&(decide ((b.fields.length:Int)=0)))
def NF (n:Nat) (g:Ty) (b:Bool):Option Int :=
 if b then
  some (2)
 else
  LF n g 
def QU (n:Nat) (b:Ty):Option Int :=
 if !(decide (1≤b.kind)&&decide (b.kind≤10)) then
  some (11)
 else
  (BJ (IM ) b.kind).bind fun g =>
  if !(decide ((LY b g)=0)) then
   some (LY b g)
  else
   if (decide (b.kind=4))&&(decide (0<(b.words.length:Int))) then
    (Nu n b).bind fun h =>
    if !(decide (h=0)) then
     some (h)
    else
     LF n b 
   else
    if g.bounds&&(((decide (b.max<b.min))||(decide (b.min<g.low)))||(decide (g.high<b.max))) then
     NF n b true
    else
     NF n b (g.scale&&(!(decide (0≤b.scale)&&decide (b.scale≤12))))
theorem ZfG (w0:World) (hT:Lib.Utf8Tabs 2 3 w0) (n:Nat) (B:Aq) (Rw:Aw) (L:Av) (a0:Ty) (r:Int) (h:QU n a0=some r) :
  ACalls Tryz.prog w0 172 [.agg (a0.cs)] ⟨B,Rw,L⟩ fun x st=>x=Am r∧st=⟨B,Rw,L⟩:=by
 rw [QU] at h
 refine hd [.tmp 2] Tryz.func172 Tryz.ntmps172 fun M0 W0 u o l b O k hs=>?_
 simp only [AB]
 refine rg [1] hs ?_
 apply An;intro K2 y
 refine rc 2 [1,11] hs ?_;intro K3 z
 refine Ax _ (Ri w0 _ _ _ a0.kind 1 10) (hv hs) ?_
 refine ne hs z ?_
 clear z
 refine BL h hs ?_ ?_<;>intro hs h
 ·have p:=hs.1
  refine rg [2] hs ?_
  exact rt h hs b k
 have p:=hs.1
 refine sk [1] hs y ?_
 clear y
 apply An;intro K6 H
 obtain ⟨c,K,h⟩:=bind_some h
 obtain ⟨N,q,C⟩:=AY K
 have j:=Ob (f:=fun x=>(X9 x).cells) 8 (fun _=>rfl) C
 have E:(IM ).length=11:=rfl
 first | rw [E] at q | simp only [List.length_cons,List.length_nil,Nat.reduceAdd,Nat.zero_add] at q
 simp only [Fb,Ft,Fp,Ec,Ed,Fj,CG,Dp,Fq,BX,BW,Du,Dv,Dq,E8,Dt,Fa,Ud] at j
 apply Lp QQ [4,5] [1,3] kr (fun s=>∃ (X:Aq) (rows:Aw),s=⟨B++([a0.cs]++X),rows,L⟩) 3 (B.length+1)
 ·simp +decide only [go_sem,Nat.reduceAdd]
 ·rintro s ⟨X,rows,rfl⟩
  refine ⟨2,?_⟩
  rw [Ao];simp +decide only [go_sem,Nat.reduceAdd,Eg,p,j]
  have hs:=Ae j hs
  (repeat' apply Ae)<;>first | refine Ax _ (Zu w0 _ _ _ ) (hv hs) ?_ | exact cl
  rw [Ao];simp +decide only [go_sem,Nat.reduceAdd,p,j]
  (repeat' apply Ae)<;>first | rfl | exact cl
 ·exact gd (tg (a:=(4,5,[1,3]))) (Ae j hs)
 simp +decide only [go_sem,Nat.reduceAdd,p,j]
 (repeat' apply Ae)<;>first | refine H _ _ ?_ | exact cl
 clear H
 apply An;intro K8 F
 have hs:=Ae j hs
 refine rc 2 [1,3,4] hs ?_;intro K9 D
 refine Ax _ (Zbr w0 _ _ _ a0 c) (hv hs) ?_
 refine ne hs D ?_
 clear D
 refine rg [1,3,4,20] hs ?_
 refine BL h hs ?_ ?_<;>intro hs h
 ·refine rg [2] hs ?_
  exact rt h hs b k
 refine sk [1,3] hs F ?_
 clear F
 refine AA (fun e st=>Ck e st B Rw L [(1,true,.box B.length 0)] [a0.cs,.val (.string c.name)::(Am c.low::(Am c.high::(.val (.bool c.bounds)::(.val (.bool c.scale)::(.val (.bool c.text)::(.val (.bool c.list)::([.val (.bool c.fields)])))))))] [] (LF n a0  = some r)) ?_ ?_
 ·intro K15 t
  apply Ar
  refine rg [1,3,22] hs ?_
  refine BL h hs ?_ ?_<;>intro hs h
  ·exact go (tg (a:=([1,5],[1,5,35],([2],()),[1],()))) h hs u o l b k (q1 (Zba w0 hT n)) (q1 t)
  refine AA (fun e st=>∃ (g:Bool),Ck e st B Rw L [(1,true,.box B.length 0),(37,true,.val (.bool g))] [a0.cs,.val (.string c.name)::(Am c.low::(Am c.high::(.val (.bool c.bounds)::(.val (.bool c.scale)::(.val (.bool c.text)::(.val (.bool c.list)::([.val (.bool c.fields)])))))))] [] (NF n a0 g=some r)) ?_ ?_
  ·intro K25 v
   refine rg [1,3,37] hs ?_
   refine BL h hs ?_ ?_<;>intro hs h
   ·refine sk [1,37] hs v ?_
    exact ⟨true,([]),Rw,ef hs,ef hs,k,h⟩
   refine rk 2 [1,37] hs ?_
   refine QJ _ (fun _=>Ri w0 _ _ _ a0.scale 0 12) (hv hs) ?_
   exact go (tg (a:=((),()))) h hs u o l b k trivial (q1 v)
  ·clear h;rintro e st ⟨g,Xk24,Rk24,rfl,rfl,k,h⟩
   rw [NF] at h
   exact go (tg (a:=(([2],()),[1],()))) h hs u o l b k trivial (q1 t)
 ·clear h;rintro e st ⟨Xk14,Rk14,rfl,rfl,k,h⟩
  rw [LF] at h
  refine td u o l b k ?_
  apply An;intro K30 w
  apply Ar
  refine AA (fun e st=>∃ (i:Bool),Ck e st B Rw L [(1,true,.box B.length 0),(69,true,.val (.bool i))] [a0.cs,.val (.string c.name)::(Am c.low::(Am c.high::(.val (.bool c.bounds)::(.val (.bool c.scale)::(.val (.bool c.text)::(.val (.bool c.list)::([.val (.bool c.fields)])))))))] [] (IP n a0 i=some r)) ?_ ?_
  ·intro K33 J
   exact go (tg (a:=([1,69],([1,69],()),[1,69],()))) h hs u o l b k trivial (q1 J)
  ·clear h;rintro e st ⟨i,Xk32,Rk32,rfl,rfl,k,h⟩
   rw [IP] at h
   refine td u o l b k ?_
   refine BL h hs ?_ ?_<;>intro hs h
   ·refine rg [2] hs ?_
    exact rt h hs b k
   refine rg [1,88] hs ?_
   refine BL h hs ?_ ?_<;>intro hs h
   ·refine rg [2] hs ?_
    exact rt h hs b k
   refine rg [1,98] hs ?_
   refine BL h hs ?_ ?_<;>intro hs h
   ·refine rg [2] hs ?_
    exact rt h hs b k
   refine sk [1] hs w ?_
   clear w
   refine AA (fun e st=>Ck e st B Rw L [] [a0.cs,.val (.string c.name)::(Am c.low::(Am c.high::(.val (.bool c.bounds)::(.val (.bool c.scale)::(.val (.bool c.text)::(.val (.bool c.list)::([.val (.bool c.fields)])))))))] [] (SZ n  = some r)) ?_ ?_
   ·intro K46 G
    refine rg [1,105,106] hs ?_
    apply Ar
    refine Az (fun m e st=>∃ (d:Int),Ck e st B Rw L [(1,true,.box B.length 0),(105,true,Am (a0.fields.length:Int)),(106,true,Am d)] [a0.cs,.val (.string c.name)::(Am c.low::(Am c.high::(.val (.bool c.bounds)::(.val (.bool c.scale)::(.val (.bool c.text)::(.val (.bool c.list)::([.val (.bool c.fields)])))))))] [] (IU n a0 m d=some r)) n ⟨0,([]),Rk32,ef hs,ef hs,k,h⟩ ?_
    rintro ml48 e st ⟨d,Xl48,Rl48,rfl,rfl,k,h⟩ Ul48 Vl48
    cases ml48 with
    | zero=>cases h
    | succ ml48 =>
    rw [IU] at h
    exact go (tg (a:=([1,105,106,107],([1,105,106],[1,6,105,106],[1,7,105,106],[1,7,105,106,113],([2],()),[1,105,106],[1,105,106],()),[],()))) h hs u o l b k (q1 (Za6 w0 n)) (q2 G (fun e s=>Vl48 ml48 e s (Nat.lt_succ_self _)))
   ·clear h;rintro e st ⟨Xk45,Rk45,rfl,rfl,k,h⟩
    rw [SZ] at h
    refine td u o l b k ?_
    refine rg [2] hs ?_
    exact rt h hs b k
def OV (rec:Ty→Int→Int→Option (Int × Int)) (n:Nat)  (pla2_k18:Int):Option (Int × Int) :=
 some ((0,pla2_k18))
def CC (rec:Ty→Int→Int→Option (Int × Int)) (n:Nat) (y:Ty) (q:Int) (h:(List Ty)):Nat→Int→Int→Option (Int × Int)
 | 0,_,_=>none
 | m+1,b,pla2_l22 =>
  if decide (b<(h.length:Int)) then
   (BJ h b).bind fun z =>
   if A9 (q+1) then
    (rec z (q+1) pla2_l22).bind fun g =>
    if !(decide (g.1=0)) then
     some ((g.1,g.2))
    else
     if decide (y.kind=9) then
      (BJ y.fields b).bind fun x38 =>
      if decide (x38.2.2.1=3) then
       (BJ x38.2.2.2.2 0).bind fun x40 =>
       (J8 n z x40).bind fun y41 =>
       if !y41 then
        some ((18,g.2))
       else
        if A9 (b+1) then
         (CC rec n y q h m) (b+1) g.2
        else none
      else
       if A9 (b+1) then
        (CC rec n y q h m) (b+1) g.2
       else none
     else
      if A9 (b+1) then
       (CC rec n y q h m) (b+1) g.2
      else none
   else none
  else
   OV rec n pla2_l22
def Pq (rec:Ty→Int→Int→Option (Int × Int)) (n:Nat) (q:Ty) (y:Int) (b:Int):Option (Int × Int) :=
 if decide (b=0) then
  some ((9,b))
 else
  if decide (8<y) then
   some ((23,b))
  else
   if A9 (b-1) then
    (QU n q).bind fun g =>
    if !(decide (g=0)) then
     some ((g,b-1))
    else
     (JB n q).bind fun h =>
     CC rec n q y h n 0 (b-1)
   else none
def JG:Nat→Ty→Int→Int→Option (Int × Int)
 | 0,_,_,_=>none
 | n+1,h,g,b=>Pq (JG n) n h g b
def SJ (w0:World) (F:Ty→Int→Int→Option (Int × Int)):Prop:=∀ (B:Aq) (Rw:Aw) (L:Av) (h:Ty) (g:Int) (la2:Nat) (b:Int) (hla2:B[la2]? = some ([Am b])) (r:Int × Int),F h g b=some r→ACalls Tryz.prog w0 82 [.agg (h.cs),Am g,.box la2 0] ⟨B,Rw,L⟩ fun x st=>x=Am r.1∧st=⟨(B.set la2 [Am r.2]),Rw,L⟩
theorem YU (w0:World) (hT:Lib.Utf8Tabs 2 3 w0) (rec:Ty→Int→Int→Option (Int × Int)) (ih:SJ w0 rec) (n:Nat):SJ w0 (Pq rec n):=by
 intro B Rw L a0 a1 l a2 u r h
 rw [Pq] at h
 refine hd [.tmp 6] Tryz.func82 Tryz.ntmps82 fun M0 W0 J j i c hu k hs=>?_
 simp only [AB]
 have Q:=(Ak.1 u).1
 have hs:=Ae (As u) hs
 refine rg [1,2,3] hs ?_
 apply An;intro K2 z
 apply Ar
 refine rg [1,2,3,11] hs ?_
 refine BL h hs ?_ ?_<;>intro hs h
 ·have V:=hs.1
  refine rg [6] hs ?_
  exact rt h hs c k
 have V:=hs.1
 refine rg [1,2,3,16] hs ?_
 refine BL h hs ?_ ?_<;>intro hs h
 ·have Z:=hs.1
  refine rg [6] hs ?_
  exact rt h hs c k
 have Z:=hs.1
 refine sk [1,2,3] hs z ?_
 clear z
 obtain ⟨ad,h⟩:=Au h
 refine rg [1,2,3] hs ?_
 apply An;intro K11 p
 obtain ⟨ae,D,h⟩:=bind_some h
 refine rc 2 [1,2,3,7] hs ?_;intro K12 t
 refine Ax _ (ZfG w0 hT n _ _ _ a0 _ D) (hv hs) ?_
 refine ne hs t ?_
 clear t
 refine rg [1,2,3,7,27] hs ?_
 refine BL h hs ?_ ?_<;>intro hs h
 ·have H:=hs.1
  exact go (tg (a:=([6],()))) h hs J j i c k trivial trivial
 have H:=hs.1
 refine sk [1,2,3] hs p ?_
 clear p
 refine AA (fun e st=>∃ (d:Int) (Xk18:Aq) (Rk18:Aw),e=[]∧st=⟨(B.set l ([Am d]))++([a0.cs]++Xk18),Rk18,L⟩∧Owns Rw Rk18 []∧OV rec n d=some r) ?_ ?_
 ·intro K19 G
  obtain ⟨w,O,h⟩:=bind_some h
  refine rc 2 [1,2,3,30,31,32] hs ?_;intro K20 o
  refine Ax _ (QM w0 n _ _ _ a0 _ O) (hv hs) ?_
  refine ne hs o ?_
  clear o
  apply Ar
  refine Az (fun m e st=>∃ (g:Int) (b:Int) (Xl22:Aq) (Rl22:Aw),e=[(1,true,Am a1),(2,true,.box l 0),(3,true,.box B.length 0),(30,true,.list (w.map Dj) .none),(31,true,Am (w.length:Int)),(32,true,Am g)]∧st=⟨(B.set l ([Am b]))++([a0.cs]++Xl22),Rl22,L⟩∧Owns Rw Rl22 []∧CC rec n a0 a1 w m g b=some r) n ⟨0,(a2-1),([]),Rw,ef hs,ef hs,k,h⟩ ?_
  rintro ml22 e st ⟨g,b,Xl22,Rl22,rfl,rfl,k,h⟩ Ul22 Vl22
  cases ml22 with
  | zero=>cases h
  | succ ml22 =>
  rw [CC] at h
  refine A8 J j i ls_ (C6 c ev) k ow ow ?_
  refine rg [1,2,3,30,31,32,33] hs ?_
  apply An;intro K24 v
  refine BL h hs ?_ ?_<;>intro hs h
  rotate_left
  ·have K:=hs.1
   refine sx [] hs G ?_
   exact ⟨b,([]),Rl22,ef hs,ef hs,k,h⟩
  have K:=hs.1
  refine sk [1,2,3,30,31,32] hs v ?_
  clear v
  apply An;intro K26 N
  apply Ar
  obtain ⟨U,E,h⟩:=bind_some h
  obtain ⟨aa,Y,x⟩:=AY E
  have y:=AO (f:=Dj) x
  have hs:=Ae y hs
  refine rg [1,2,3,8,9,30,31,32] hs ?_
  apply An;intro K29 F
  obtain ⟨ab,h⟩:=Au h
  obtain ⟨af,C,h⟩:=bind_some h
  refine rc 2 [1,2,3,8,9,10,30,31,32] hs ?_;intro K30 q
  refine DL _ (ih _ _ _ U (a1+1) l b (ef hs) _ C) (hv hs) ?_;rintro _ _ ⟨rfl,rfl⟩
  refine ne hs q ?_
  clear q
  exact go (tg (a:=([1,2,3,8,9,10,30,31,32,43],([6],()),[1,2,3,8,9,30,31,32],(([25,1,2,3,30,31,32,69],([6],()),[1,2,3,30,31,32],[1,2,3,30,31,32],()),[25,1,2,3,30,31,32,69],[1,2,3,30,31,32],[1,2,3,30,31,32],()),[25,1,2,3,30,31,32,69],[1,2,3,30,31,32],[1,2,3,30,31,32],()))) h hs J j i c k (q1 (Yg w0 hT n)) (q3 F N (fun e s=>Vl22 ml22 e s (Nat.lt_succ_self _)))
 ·clear h;rintro e st ⟨d,Xk18,Rk18,rfl,rfl,k,h⟩
  rw [OV] at h
  refine A8 J j i ls_ (C6 c ev) k ow ow ?_
  exact go (tg (a:=([6],()))) h hs J j i c k trivial trivial
theorem Vn (w0:World) (hT:Lib.Utf8Tabs 2 3 w0):∀ n:Nat,SJ w0 (JG n)
 | 0=>fun _ _ _ _ _ _ _ _ _ h=>(nomatch h)
 | n+1=>YU w0 hT (JG n) (Vn w0 hT n) n
def IQ  : List (Nat × Vl)→Int→Option Int
 | [],b1_r6 =>
  some (b1_r6)
 | p_r6::rest,b1_r6 =>
  if A9 (b1_r6+1) then
   (IQ  rest) (b1_r6+1)
  else none
def OT (b:Vl):Option Int :=
 if b.depth<4611686018427387904∧b.wide=true then
  IQ  (GU 1 b) 0
 else none
theorem Zc0 (w0:World) (B:Aq) (Rw:Aw) (L:Av) (a0:Vl) (r:Int) (h:OT a0=some r) :
  ACalls Tryz.prog w0 195 [.agg (a0.cs)] ⟨B,Rw,L⟩ fun x st=>x=Am r∧st=⟨B,Rw,L⟩:=by
 rw [OT] at h
 refine hd [.tmp 2] Tryz.func195 Tryz.ntmps195 fun M0 W0 z p n b E c hs=>?_
 simp only [AB]
 refine rg [1] hs ?_
 refine rg [1,3] hs ?_
 apply An;intro K3 d
 refine rc 2 [3,5] hs ?_;intro K4 f
 refine DL _ (Tm w0 _ _ _ a0) (hv hs) ?_;rintro _ _ ⟨rfl,rfl⟩
 refine ne hs f ?_
 clear f
 apply Ar
 obtain ⟨q,h⟩:=Au h
 refine S5 (KU a0) (fun st=>st.boxes[(B.length+2)]? = some a0.cs) (fun i st=>∃ (a:Int) (Rr6:Aw),st=⟨B++([a0.cs,[Am a],a0.cs]),Rr6,L⟩∧Owns Rw Rr6 []∧IQ  ((GU 1 a0).drop i) a=some r) (fun _ _=>False) ev ev (P3 w0 a0 q _) (fun x k=>UH a0 x k) (by decide) ?_ ⟨0,Rw,ef hs,c,h⟩ (fun _ _ h=>h.elim) ?_ ?_ ?_
 ·rintro i st t ⟨a,Rr6,rfl,c,h⟩ _ _;simp +decide [St.push]
 ·rintro i F ⟨XB,XR,XL⟩ x M1 W1 l t y hX D o g k w K v
  obtain ⟨u,m,rfl,H⟩:=V8 a0 i x k
  (try simp only at hX)
  subst hX
  obtain ⟨a,Rr6,rfl,c,h⟩:=D
  rw [Vb m,IQ] at h
  have e:=c
  simp only [St.ext,St.push,List.append_assoc,List.append_nil]
  refine Lh (Ea [3] _) ?_ (DV _ _)
  apply BI;simp +decide only [go_sem,Nat.reduceAdd]
  (repeat' apply Ae)<;>first | refine v _ _ (by simp [St.ext,St.push]) (fun J j=>?_) | exact cl
  clear v
  dsimp only [St.ext,St.push]
  apply Ar
  obtain ⟨C,h⟩:=Au h
  apply Ap 1 [3]
  rw [Ao];simp +decide only [go_sem,Nat.reduceAdd]
  (repeat' apply Ae)<;>first | refine j _ _ _ ⟨⟨B++[a0.cs,[Am (a+1)],a0.cs],Rr6,L⟩,[],by first | rfl | (simp only [List.append_assoc,List.append_nil,List.cons_append,List.nil_append];done),⟨by simp,by first | exact Nat.le_refl _ | (have:=c.len;simp;omega),rfl⟩,rfl,⟨(a+1),Rr6,ef hs,c,h⟩,?_⟩ | exact cl
  exact .inl rfl
 ·rintro s t ⟨XB,XR,XL⟩ hXR ⟨a,Rr6,rfl,c,h⟩ _ _
  simp only at hXR
  subst hXR
  rw [List.drop_eq_nil_of_le (by rw [P2];exact Nat.le_refl _),IQ] at h
  simp only [St.ext,St.push,List.append_assoc,List.append_nil]
  (repeat' apply Ae)<;>first | refine d _ _ ?_ | exact cl
  clear d
  refine Su (bs:=[a0.cs,[Am a],a0.cs]) z p n rfl b c ow ow ?_
  refine rg [2] hs ?_
  exact rt h hs b c
 ·rintro G s t X hX h;exact h.elim
def D2 (rec:Ty→Option Int) (n:Nat) (g:Int→Int→Option Int) (b:Int) (h:Int):Option Int :=
 if A9 (b+1) then
  g h (b+1)
 else none
def Ew (rec:Ty→Option Int) (n:Nat)  (b:Int):Option Int :=
 some ((if 4097<b then 4097 else b))
def BA (rec:Ty→Option Int) (n:Nat) (q:Ty):Nat→Int→Int→Option Int
 | 0,_,_=>none
 | m+1,g,b =>
  if decide (b<(q.fields.length:Int)) then
   (BJ q.fields b).bind fun h =>
   if decide (h.2.2.1=1) then
    (rec h.2.2.2.1).bind fun z =>
    if A9 (g+z) then
     D2 rec n (BA rec n q m) b (g+z)
    else none
   else
    if decide (h.2.2.1=3) then
     (BJ h.2.2.2.2 0).bind fun x39 =>
     (OT x39).bind fun y =>
     if A9 (g+y) then
      D2 rec n (BA rec n q m) b (g+y)
     else none
    else
     D2 rec n (BA rec n q m) b g
  else
   Ew rec n g
def JP (rec:Ty→Option Int) (n:Nat) (b:Ty):Option Int :=
 if decide (b.kind=8) then
  if decide (0<b.min) then
   (BJ b.elem 0).bind fun y =>
   (rec y).bind fun g =>
   if A9 (b.min*g) then
    if A9 (1+(b.min*g)) then
     Ew rec n (1+(b.min*g))
    else none
   else none
  else
   Ew rec n 1
 else
  if decide (b.kind=10) then
   (BJ b.fields 0).bind fun q =>
   (rec q.2.2.2.1).bind fun h =>
   if A9 (1+h) then
    Ew rec n (1+h)
   else none
  else
   if decide (b.kind=9) then
    BA rec n b n 1 0
   else
    Ew rec n 1
def Dn:Nat→Ty→Option Int
 | 0,_=>none
 | n+1,b=>JP (Dn n) n b
def Nb (w0:World) (F:Ty→Option Int):Prop:=∀ (B:Aq) (Rw:Aw) (L:Av) (b:Ty) (r:Int),F b=some r→ACalls Tryz.prog w0 173 [.agg (b.cs)] ⟨B,Rw,L⟩ fun x st=>x=Am r∧st=⟨B,Rw,L⟩
theorem S1 (w0:World) (rec:Ty→Option Int) (ih:Nb w0 rec) (n:Nat):Nb w0 (JP rec n):=by
 intro B Rw L a0 r h
 rw [JP] at h
 refine hd [.tmp 2] Tryz.func173 Tryz.ntmps173 fun M0 W0 p k j c t i hs=>?_
 simp only [AB]
 refine rg [1] hs ?_
 refine rg [1,3] hs ?_
 refine AA (fun e st=>∃ (g:Int),Ck e st B Rw L [(3,true,Am g)] [a0.cs] [] (Ew rec n g=some r)) ?_ ?_
 ·intro K5 l
  refine rg [1,3,7] hs ?_
  apply Ar
  refine rg [1,3,7,8] hs ?_
  refine BL h hs ?_ ?_<;>intro hs h
  ·exact go (tg (a:=([1,3,12],([10,3],()),[3],()))) h hs p k j c i (q1 ih) (q1 l)
  refine rg [1,3,7,23] hs ?_
  refine BL h hs ?_ ?_<;>intro hs h
  ·exact go (tg (a:=([3],()))) h hs p k j c i (q1 ih) (q1 l)
  refine rg [1,3,33] hs ?_
  refine BL h hs ?_ ?_<;>intro hs h
  ·refine rg [3,36,37,38] hs ?_
   apply Ar
   refine Az (fun m e st=>∃ (d:Int) (b:Int),Ck e st B Rw L [(3,true,Am d),(36,true,.list (a0.fields.map CH) .none),(37,true,Am (a0.fields.length:Int)),(38,true,Am b)] [a0.cs] [] (BA rec n a0 m d b=some r)) n ⟨1,0,([]),Rw,ef hs,ef hs,i,h⟩ ?_
   rintro ml23 e st ⟨d,b,Xl23,Rl23,rfl,rfl,i,h⟩ Ul23 Vl23
   cases ml23 with
   | zero=>cases h
   | succ ml23 =>
   rw [BA] at h
   refine td p k j c i ?_
   refine rg [3,36,37,38,39] hs ?_
   apply An;intro K25 o
   refine BL h hs ?_ ?_<;>intro hs h
   rotate_left
   ·refine sx [3] hs l ?_
    exact ⟨d,([]),Rl23,ef hs,ef hs,i,h⟩
   refine sk [3,36,37,38] hs o ?_
   clear o
   refine AA (fun e st=>∃ (f:Int),Ck e st B Rw L [(3,true,Am f),(36,true,.list (a0.fields.map CH) .none),(37,true,Am (a0.fields.length:Int)),(38,true,Am b)] [a0.cs] [] (D2 rec n (BA rec n a0 ml23) b f=some r)) ?_ ?_
   ·intro K29 q
    exact go (tg (a:=([3,5,36,37,38],[3,5,36,37,38,43],[3,5,36,37,38,43,44],([3,36,37,38],()),[3,5,36,37,38,51],([3,36,37,38],()),[3,36,37,38],()))) h hs p k j c i (q2 ih (Zc0 w0)) (q1 q)
   ·clear h;rintro e st ⟨f,Xk28,Rk28,rfl,rfl,i,h⟩
    rw [D2] at h
    exact go (tg (a:=([3,36,37,38],()))) h hs p k j c i trivial (q1 (fun e s=>Vl23 ml23 e s (Nat.lt_succ_self _)))
  refine sk [3] hs l ?_
  exact ⟨1,([]),Rw,ef hs,ef hs,i,h⟩
 ·clear h;rintro e st ⟨g,Xk4,Rk4,rfl,rfl,i,h⟩
  rw [Ew] at h
  refine td p k j c i ?_
  refine rg [2] hs ?_
  exact rt h hs c i
theorem OX (w0:World):∀ n:Nat,Nb w0 (Dn n)
 | 0=>fun _ _ _ _ _ h=>(nomatch h)
 | n+1=>S1 w0 (Dn n) (OX w0 n) n
def IB (rec:Ty→Option Int) (n:Nat)  (b:Int):Option Int :=
 some (b)
def Ci (rec:Ty→Option Int) (n:Nat) (y:Ty):Nat→Int→Int→Option Int
 | 0,_,_=>none
 | m+1,g,b =>
  if decide (b<(y.fields.length:Int)) then
   (BJ y.fields b).bind fun q =>
   (rec q.2.2.2.1).bind fun h =>
   if A9 (b+1) then
    (Ci rec n y m) ((if g<h then h else g)) (b+1)
   else none
  else
   IB rec n g
def IX (rec:Ty→Option Int) (n:Nat) (g:Ty) (b:Int):Option Int :=
 Ci rec n g n b 0
def CM (rec:Ty→Option Int) (n:Nat) (q:Ty):Nat→Int→Int→Option Int
 | 0,_,_=>none
 | m+1,g,b =>
  if decide (b<(q.elem.length:Int)) then
   (BJ q.elem b).bind fun y =>
   (rec y).bind fun h =>
   if A9 (b+1) then
    (CM rec n q m) ((if g<h then h else g)) (b+1)
   else none
  else
   IX rec n q g
def Hy (rec:Ty→Option Int) (n:Nat) (b:Ty):Option Int :=
 (Dn n b).bind fun g =>
 CM rec n b n g 0
def CE:Nat→Ty→Option Int
 | 0,_=>none
 | n+1,b=>Hy (CE n) n b
def Js (w0:World) (F:Ty→Option Int):Prop:=∀ (B:Aq) (Rw:Aw) (L:Av) (b:Ty) (r:Int),F b=some r→ACalls Tryz.prog w0 83 [.agg (b.cs)] ⟨B,Rw,L⟩ fun x st=>x=Am r∧st=⟨B,Rw,L⟩
theorem PW (w0:World) (rec:Ty→Option Int) (ih:Js w0 rec) (n:Nat):Js w0 (Hy rec n):=by
 intro B Rw L a0 r h
 rw [Hy] at h
 refine hd [.tmp 2] Tryz.func83 Tryz.ntmps83 fun M0 W0 t o l c x k hs=>?_
 simp only [AB]
 refine rg [1] hs ?_
 obtain ⟨w,u,h⟩:=bind_some h
 refine rc 2 [1,3] hs ?_;intro K2 p
 refine Ax _ (OX w0 n _ _ _ a0 _ u) (hv hs) ?_
 refine ne hs p ?_
 clear p
 refine AA (fun e st=>∃ (i:Int),Ck e st B Rw L [(1,true,.box B.length 0),(3,true,Am i)] [a0.cs] [] (IX rec n a0 i=some r)) ?_ ?_
 ·intro K6 v
  refine rg [1,3,11,12,13] hs ?_
  apply Ar
  refine Az (fun m e st=>∃ (j:Int) (g:Int),Ck e st B Rw L [(1,true,.box B.length 0),(3,true,Am j),(11,true,.list (a0.elem.map Dj) .none),(12,true,Am (a0.elem.length:Int)),(13,true,Am g)] [a0.cs] [] (CM rec n a0 m j g=some r)) n ⟨w,0,([]),Rw,ef hs,ef hs,k,h⟩ ?_
  rintro ml8 e st ⟨j,g,Xl8,Rl8,rfl,rfl,k,h⟩ Ul8 Vl8
  cases ml8 with
  | zero=>cases h
  | succ ml8 =>
  rw [CM] at h
  exact go (tg (a:=([1,3,11,12,13,14],([1,3,11,12,13],[1,3,5,11,12,13],[1,3,11,12,13],[1,3,11,12,13],()),[1,3],()))) h hs t o l c k (q1 ih) (q2 v (fun e s=>Vl8 ml8 e s (Nat.lt_succ_self _)))
 ·clear h;rintro e st ⟨i,Xk5,Rk5,rfl,rfl,k,h⟩
  rw [IX] at h
  refine td t o l c k ?_
  refine AA (fun e st=>∃ (d:Int),Ck e st B Rw L [(3,true,Am d)] [a0.cs] [] (IB rec n d=some r)) ?_ ?_
  ·intro K19 q
   refine rg [3,23,24,25] hs ?_
   apply Ar
   refine Az (fun m e st=>∃ (f:Int) (b:Int),Ck e st B Rw L [(3,true,Am f),(23,true,.list (a0.fields.map CH) .none),(24,true,Am (a0.fields.length:Int)),(25,true,Am b)] [a0.cs] [] (Ci rec n a0 m f b=some r)) n ⟨i,0,([]),Rk5,ef hs,ef hs,k,h⟩ ?_
   rintro ml21 e st ⟨f,b,Xl21,Rl21,rfl,rfl,k,h⟩ Ul21 Vl21
   cases ml21 with
   | zero=>cases h
   | succ ml21 =>
   rw [Ci] at h
   exact go (tg (a:=([3,23,24,25,26],([3,23,24,25],[3,7,23,24,25],[3,23,24,25],[3,23,24,25],()),[3],()))) h hs t o l c k (q1 ih) (q2 q (fun e s=>Vl21 ml21 e s (Nat.lt_succ_self _)))
  ·clear h;rintro e st ⟨d,Xk18,Rk18,rfl,rfl,k,h⟩
   rw [IB] at h
   refine td t o l c k ?_
   refine rg [2] hs ?_
   exact rt h hs c k
theorem ME (w0:World):∀ n:Nat,Js w0 (CE n)
 | 0=>fun _ _ _ _ _ h=>(nomatch h)
 | n+1=>PW w0 (CE n) (ME w0 n) n
def IK (n:Nat) (h:Ty):Option Int :=
 (JG n h 1 4096).bind fun g =>
 if !(decide (g.1=0)) then
  some (g.1)
 else
  (CE n h).bind fun b =>
  if decide (4096<b) then
   some (9)
  else
   some (0)
theorem Ql (w0:World) (hT:Lib.Utf8Tabs 2 3 w0) (n:Nat) (B:Aq) (Rw:Aw) (L:Av) (a0:Ty) (r:Int) (h:IK n a0=some r) :
  ACalls Tryz.prog w0 29 [.agg (a0.cs)] ⟨B,Rw,L⟩ fun x st=>x=Am r∧st=⟨B,Rw,L⟩:=by
 rw [IK] at h
 refine hd [.tmp 2] Tryz.func29 Tryz.ntmps29 fun M0 W0 j d c b k i hs=>?_
 simp only [AB]
 refine rg [1] hs ?_
 refine rg [1,3] hs ?_
 apply An;intro K3 e
 obtain ⟨l,g,h⟩:=bind_some h
 refine rc 2 [1,4] hs ?_;intro K4 f
 refine DL _ (Vn w0 hT n _ _ _ a0 1 (B.length+1) 4096 ev _ g) (hv hs) ?_;rintro _ _ ⟨rfl,rfl⟩
 exact go (tg (a:=([1,4,8],([2],()),[1],[12],([2],()),[],[2],()))) h hs j d c b i (q1 (ME w0 n)) (q2 f e)
def Za5 (x:ByteArray):Int:=U7 (Vl.mk 4 0 0 x [] [])
def ZbB:Option ByteArray→List ByteArray→Int
 | _,[]=>0
 | none,x::r=>if Za5 x=0 then ZbB (some x) r else Za5 x
 | some p,x::r=>if Za5 x=0 then (if Fv x p=true then 7 else if sLt x p=true then 24 else ZbB (some x) r) else Za5 x
def Za9 (l:List ByteArray):Nat→Option ByteArray
 | 0=>none
 | i+1=>l[i]?
theorem Zhr (x:ByteArray) (h:x.size≤1048576):(Vl.mk 4 0 0 x [] []).ok∧(Vl.mk 4 0 0 x [] []).size=1:=⟨by simp [Vl.ok,ZcV,Zdb,h],by simp [Vl.size,EL,Fg]⟩
theorem Zk6 (n:Nat) (hn:4≤n) (x:ByteArray) (h:x.size≤1048576):HL n (Nz x)=some (Za5 x):=by
 obtain ⟨b,a⟩:=Zhr x h
 have e:Nz x=Vl.mk 4 0 0 x [] []:=rfl
 rw [e]
 exact Xz n _ (by rw [a];omega) (by rw [a];omega) b
theorem ZfL (n:Nat) (hn:4≤n) (t:Ty) (hl:t.words.length≤1000000000) (hz:∀ x∈t.words,x.size≤1048576):∀ (k m i:Nat),i+k=t.words.length→k<m→FY n t m i=some (ZbB (Za9 t.words i) (t.words.drop i))
 | k,0,i,_,h=>absurd h (Nat.not_lt_zero _)
 | 0,m+1,i,hi,_=>by
  rw [FY,AH,Ac]
  simp only [Bool.false_eq_true,if_false,MO]
  rw [List.drop_eq_nil_of_le (by omega)]
  cases Za9 t.words i<;>rfl
 | k+1,m+1,i,hi,hm=>by
  have a:i<t.words.length:=by omega
  have ih:=ZfL n hn t hl hz k m (i+1) (by omega) (by omega)
  rw [FY,AH,Ah a]
  simp only [if_true,AK a,Af]
  rw [Zk6 n hn _ (hz _ (List.getElem_mem a)),List.drop_eq_getElem_cons a]
  simp only [Af]
  have c:Za9 t.words (i+1)=some t.words[i]:=by simp only [Za9,List.getElem?_eq_getElem a]
  rw [c] at ih
  cases i with
  | zero =>
   simp only [Za9,ZbB]
   by_cases hb:Za5 t.words[0]=0
   ·rw [Ai hb,Ah hb]
    simp only [Bool.not_true,Bool.false_eq_true,if_false]
    rw [Aj (by decide),Ai (AG (by omega))]
    exact ih
   ·rw [Aj hb,Ag hb];rfl
  | succ j =>
   have b:j<t.words.length:=by omega
   have e:Za9 t.words (j+1)=some t.words[j]:=by simp only [Za9,List.getElem?_eq_getElem b]
   rw [e]
   simp only [ZbB]
   by_cases hb:Za5 t.words[j+1]=0
   ·rw [Ai hb,Ah hb]
    simp only [Bool.not_true,Bool.false_eq_true,if_false,Zcl,if_true,Z6]
    have d:A9 (j:Int):=Zck (by omega)
    simp only [Ai d,AK b,Af]
    by_cases h1:Fv t.words[j+1] t.words[j]=true
    ·rw [Ai h1,Ai h1]
    ·rw [Aj h1,Aj h1]
     by_cases h2:sLt t.words[j+1] t.words[j]=true
     ·rw [Ai h2,Ai h2]
     ·rw [Aj h2,Aj h2,Ai (AG (by omega))]
      exact ih
   ·rw [Aj hb,Ag hb];rfl
def OJ (t:Ty):Int:=if t.min≠0∨t.max≠0 then 3 else if 64<t.words.length then 9 else ZbB none t.words
theorem ZcO (n:Nat) (hn:4≤n) (t:Ty) (hw:t.words.length<n) (hl:t.words.length≤1000000000) (hz:∀ x∈t.words,x.size≤1048576):Nu n t=some (OJ t):=by
 have e:=ZfL n hn t hl hz t.words.length n 0 (by omega) hw
 rw [List.drop_zero] at e
 rw [Nu,OJ]
 by_cases h:t.min≠0∨t.max≠0
 ·rw [Ai h,Ai (by simpa using h)]
 ·rw [Aj h,Aj (by simpa using h)]
  by_cases h2:64<t.words.length
  ·rw [Ai h2,Ai (Ah (by omega))]
  ·rw [Aj h2,Aj (by rw [decide_eq_true_eq];omega)]
   exact e
theorem Zi (n:Nat) (l:List TF) (p:TF→Bool) (hl:l.length≤1000000000) (hn:l.length<n):AZ n l (fun x=>some (p x))=some (l.any p):=by
 have e:=RL n l p hl l.length n 0 (by omega) hn
 have a:Bg n l (fun x=>some (p x))=some (PT p l 0):=e
 rw [AZ,a,Af]
 congr 1
 have := @List.findIdx_lt_length _ p l
 unfold PT
 rw [List.drop_zero]
 by_cases h:l.findIdx p<l.length
 ·rw [Ai h,Ad,List.any_eq_true.2 (this.1 h)]
 ·rw [Aj h,Ac]
  exact (Bool.eq_false_iff.2 fun q=>h (this.2 (List.any_eq_true.1 q))).symm
def Oi (k:Int) (b:List TF) (x:TF):Int :=
 if FZ x.2.1=true then
  if ¬ (1≤x.1∧x.1≤9999) then 2
  else if (b.any fun q=>E2 q x)=true then 7
  else if ¬ (1≤x.2.2.1∧x.2.2.1≤3)∨(k=10∧x.2.2.1≠1) then 11
  else if x.2.2.1=3∧x.2.2.2.2.length=0 then 4
  else if 1<x.2.2.2.2.length∨(x.2.2.1≠3∧0<x.2.2.2.2.length) then 3
  else 0
 else 12
def KC (k:Int):List TF→List TF→Int
 | _,[]=>0
 | b,x::r=>if Oi k b x=0 then KC k (b++[x]) r else Oi k b x
theorem YB {α:Type} (l:List α) (i:Nat) (h:i<l.length):l.take i++[l[i]]=l.take (i+1):=by rw [List.take_succ_eq_append_getElem h]
theorem ZcE (n:Nat) (t:Ty) (i:Nat) (h:i<t.fields.length) (hl:t.fields.length≤1000000000) (hn:t.fields.length<n) (hz:∀ p∈t.fields,p.2.1.size≤1048576):Nq n t i=some (Oi t.kind (t.fields.take i) t.fields[i]):=by
 rw [Nq,AK h]
 simp only [Af]
 rw [Ai (Za4 (by have:=hz _ (List.getElem_mem h);omega)),Oi,Int.toNat_natCast,Zi n _ _ (by rw [List.length_take];omega) (by rw [List.length_take];omega)]
 simp only [Af]
 by_cases h1:FZ t.fields[i].2.1=true
 rotate_left
 ·rw [Aj h1,Bool.eq_false_iff.2 h1];rfl
 rw [Ai h1,h1]
 simp only [Bool.not_true,Bool.false_eq_true,if_false]
 by_cases h2:1≤t.fields[i].1∧t.fields[i].1≤9999
 rotate_left
 ·rw [Ai (show (!(decide (1≤t.fields[i].1)&&decide (t.fields[i].1≤9999)))=true by simp;omega),Ai h2]
 rw [Aj (show ¬ (!(decide (1≤t.fields[i].1)&&decide (t.fields[i].1≤9999)))=true by simp;omega),Aj (fun q:¬ _=>q h2),Ab]
 by_cases h3:((t.fields.take i).any fun q=>E2 q t.fields[i])=true
 ·rw [Ai h3,Ai h3]
 rw [Aj h3,Aj h3]
 by_cases h4:¬ (1≤t.fields[i].2.2.1∧t.fields[i].2.2.1≤3)∨(t.kind=10∧t.fields[i].2.2.1≠1)
 ·rw [Ai h4,Ai (by simp;omega)]
 rw [Aj h4,Aj (by simp;omega)]
 by_cases h5:t.fields[i].2.2.1=3∧t.fields[i].2.2.2.2.length=0
 ·rw [Ai h5,Ai (by simp;exact ⟨h5.1,List.length_eq_zero_iff.1 h5.2⟩)]
 rw [Aj h5,Aj (by simp;intro a b;exact h5 ⟨a,by rw [b];rfl⟩)]
 by_cases h6:1<t.fields[i].2.2.2.2.length∨(t.fields[i].2.2.1≠3∧0<t.fields[i].2.2.2.2.length)
 ·rw [Ai h6,Ai (by simp only [Bool.or_eq_true,Bool.and_eq_true,decide_eq_true_eq,Bool.not_eq_true',decide_eq_false_iff_not];omega)]
 ·rw [Aj h6,Aj (by simp only [Bool.or_eq_true,Bool.and_eq_true,decide_eq_true_eq,Bool.not_eq_true',decide_eq_false_iff_not];omega)]
theorem ZaK (n:Nat) (t:Ty) (hl:t.fields.length≤1000000000) (hn:t.fields.length<n) (hz:∀ p∈t.fields,p.2.1.size≤1048576):∀ (k m i:Nat),i+k=t.fields.length→k<m→IU n t m i=some (KC t.kind (t.fields.take i) (t.fields.drop i))
 | k,0,i,_,h=>absurd h (Nat.not_lt_zero _)
 | 0,m+1,i,hi,_=>by
  rw [IU,AH,Ac]
  rw [List.drop_eq_nil_of_le (by omega)];rfl
 | k+1,m+1,i,hi,hm=>by
  have a:i<t.fields.length:=by omega
  rw [IU,AH,Ah a,ZcE n t i a hl hn hz,List.drop_eq_getElem_cons a,KC]
  simp only [if_true,Af]
  by_cases h:Oi t.kind (t.fields.take i) t.fields[i]=0
  ·rw [Ah h,Ai h]
   simp only [Bool.not_true,Bool.false_eq_true,if_false]
   rw [Ai (AG (by omega)),YB _ _ a]
   exact ZaK n t hl hn hz k m (i+1) (by omega) (by omega)
  ·rw [Ag h,Aj h];rfl
def Q3 (t:Ty):Int :=
 if t.kind<1∨10<t.kind then 11
 else if Bj t=true then 3
 else if t.kind=4∧0<t.words.length then OJ t
 else if ((2≤t.kind∧t.kind≤8)∧B2 t (A2 t.kind).1 (A2 t.kind).2=false)∨¬ (0≤t.scale∧t.scale≤12) then 2
 else if (t.kind=8∧t.elem.length=0)∨(t.kind=10∧t.fields.length=0) then 4
 else if 1<t.elem.length then 3
 else if 64<t.fields.length then 9
 else KC t.kind [] t.fields
def Ty.fit (t:Ty) (n:Nat):Prop:=4≤n∧t.words.length<n∧t.fields.length<n∧t.words.length≤1000000000∧t.fields.length≤1000000000∧t.elem.length≤1000000000∧(∀ x∈t.words,x.size≤1048576)∧∀ p∈t.fields,p.2.1.size≤1048576
def V6 (k:Int):Lim:=(IM[k.toNat]?).getD (Lim.mk ⟨#[]⟩ 0 0 false false false false false)
theorem ZhL (k:Int) (h:¬ (k<1∨10<k)):BJ IM k=some (V6 k):=by
 rcases Il h with hk | hk | hk | hk | hk | hk | hk | hk | hk | hk<;>subst hk<;>rfl
theorem ZhP (t:Ty) (h:¬ (t.kind<1∨10<t.kind)):LY t (V6 t.kind)=if Bj t=true then 3 else 0:=by
 have a:∀ x:Nat,decide (0<(x:Int)) = !decide ((x:Int)=0):=fun x=>by
  by_cases h:x=0
  ·subst h;rfl
  ·rw [Ah (show 0<(x:Int) by omega),Ag (show ¬ (x:Int)=0 by omega)];rfl
 have b:decide (t.min=0)=true∨decide (t.min=0)=false:=by cases decide (t.min=0)<;>simp
 rw [LY,Bj]
 simp only [a,IH]
 generalize decide (t.min=0)=b1
 generalize decide (t.max=0)=b2
 generalize decide (t.scale=0)=b3
 generalize decide ((t.words.length:Int)=0)=b4
 generalize decide ((t.elem.length:Int)=0)=b5
 generalize decide ((t.fields.length:Int)=0)=b6
 clear b a
 rcases Il h with hk | hk | hk | hk | hk | hk | hk | hk | hk | hk<;>simp only [hk]<;>cases b1<;>cases b2<;>cases b3<;>cases b4<;>cases b5<;>cases b6<;>rfl
theorem Zif (n:Nat) (t:Ty) (h:t.fit n):QU n t=some (Q3 t):=by
 obtain ⟨v,r,m,u,D,G,s,y⟩:=h
 have o:=ZcO n v t r u s
 have l:=ZaK n t D m y t.fields.length n 0 (by omega) m
 rw [List.drop_zero,List.take_zero] at l
 have j:IU n t n 0=some (KC t.kind [] t.fields):=l
 have E:IP n t false=some (if 1<t.elem.length∧t.kind=8 then 3 else if 64<t.fields.length then 9 else KC t.kind [] t.fields):=by
  rw [IP,Aj (by decide)]
  by_cases q:1<t.elem.length∧t.kind=8
  ·rw [Ai q,Ai (by simp only [Bool.and_eq_true,decide_eq_true_eq];omega)]
  ·rw [Aj q,Aj (by simp only [Bool.and_eq_true,decide_eq_true_eq];omega)]
   by_cases q2:64<t.fields.length
   ·rw [Ai q2,Ai (Ah (by omega))]
   ·rw [Aj q2,Aj (by rw [decide_eq_true_eq];omega),j]
 have k:IP n t true=some 4:=by rw [IP,Ai rfl]
 have g:¬ Bj t=true→LF n t=some (if (t.kind=8∧t.elem.length=0)∨(t.kind=10∧t.fields.length=0) then 4 else if 1<t.elem.length then 3 else if 64<t.fields.length then 9 else KC t.kind [] t.fields):=fun p=>by
  have x:1<t.elem.length→t.kind=8:=fun q=>by
   by_cases k8:t.kind=8
   ·exact k8
   ·exfalso;apply p;rw [Bj,Ag k8,Ah (show 0<(t.elem.length:Int) by omega)];simp
  rw [LF]
  by_cases q1:t.kind=8∧t.elem.length=0
  ·rw [Ai (by simp only [Bool.and_eq_true,decide_eq_true_eq];omega),k,Ai (.inl q1)]
  rw [Aj (by simp only [Bool.and_eq_true,decide_eq_true_eq];omega)]
  by_cases q2:t.kind=10∧t.fields.length=0
  ·rw [Ah q2.1,Ah (show (t.fields.length:Int)=0 by omega),show (true&&true)=true from rfl,k,Ai (.inr q2)]
  ·have e:(decide (t.kind=10)&&decide ((t.fields.length:Int)=0))=false:=by
    rw [Bool.eq_false_iff];simp only [ne_eq,Bool.and_eq_true,decide_eq_true_eq];omega
   rw [e,E,Aj (show ¬ ((t.kind=8∧t.elem.length=0)∨(t.kind=10∧t.fields.length=0)) by omega)]
   by_cases q3:1<t.elem.length
   ·rw [Ai ⟨q3,x q3⟩,Ai q3]
   ·rw [Aj (fun q=>q3 q.1),Aj q3]
 rw [QU,Q3]
 by_cases q1:t.kind<1∨10<t.kind
 ·rw [Ai q1,Ai (by simp;omega)]
 rw [Aj q1,Aj (by simp;omega),ZhL _ q1]
 simp only [Af]
 rw [ZhP t q1]
 by_cases q2:Bj t=true
 ·rw [Ai q2,Ai q2];rfl
 rw [Aj q2,Aj q2,Aj (by decide)]
 have d:=g q2
 by_cases q3:t.kind=4∧0<t.words.length
 ·rw [Ai q3,Ai (by simp only [Bool.and_eq_true,decide_eq_true_eq];omega),o]
  simp only [Af]
  by_cases z:OJ t=0
  ·rw [Ah z,z,Aj (by decide),d]
   have F:t.elem.length=0:=by
    rcases Nat.eq_zero_or_pos t.elem.length with e | e
    ·exact e
    ·exfalso;apply q2;rw [Bj,Ag (show ¬ t.kind=8 by omega),Ah (show 0<(t.elem.length:Int) by omega)];simp
   have C:t.fields.length=0:=by
    rcases Nat.eq_zero_or_pos t.fields.length with e | e
    ·exact e
    ·exfalso;apply q2;rw [Bj,Ag (show ¬ t.kind=9 by omega),Ag (show ¬ t.kind=10 by omega),Ah (show 0<(t.fields.length:Int) by omega)];simp
   rw [Aa,Aa,Aa,List.length_eq_zero_iff.1 C];rfl
  ·rw [Ag z];rfl
 rw [Aj q3,Aj (by simp only [Bool.and_eq_true,decide_eq_true_eq];omega)]
 have i:t.kind≠3→t.scale=0:=fun c=>by
  by_cases z:t.scale=0
  ·exact z
  ·exfalso;apply q2;rw [Bj,Ag c,Ag z];simp
 have w:((V6 t.kind).bounds&&(((decide (t.max<t.min))||(decide (t.min<(V6 t.kind).low)))||(decide ((V6 t.kind).high<t.max))))=((decide (2≤t.kind∧t.kind≤8)) && !(B2 t (A2 t.kind).1 (A2 t.kind).2)):=by
  have g1:∀ a b:Int,decide (a<b) = !decide (b≤a):=fun a b=>by
   by_cases q:a<b
   ·rw [Ah q,Ac];rfl
   ·rw [Ag q,Ad];rfl
  simp only [g1,B2]
  rcases Il q1 with hk | hk | hk | hk | hk | hk | hk | hk | hk | hk<;>simp only [hk] <;>
   simp [V6,IM,A2,NU,Na,Bool.or_comm,Bool.or_left_comm,Bool.or_assoc]
 have hs:(V6 t.kind).scale=decide (t.kind=3):=by
  rcases Il q1 with hk | hk | hk | hk | hk | hk | hk | hk | hk | hk<;>simp only [hk]<;>rfl
 rw [w,hs]
 by_cases q4:(2≤t.kind∧t.kind≤8)∧B2 t (A2 t.kind).1 (A2 t.kind).2=false
 ·rw [Ah q4.1,Ai (Or.inl q4),q4.2];rfl
 have f:(decide (2≤t.kind∧t.kind≤8) && !(B2 t (A2 t.kind).1 (A2 t.kind).2))=false:=by
  rw [Bool.eq_false_iff];simp only [ne_eq,Bool.and_eq_true,decide_eq_true_eq,Bool.not_eq_true'];exact q4
 rw [f,Aj (by decide)]
 by_cases q5:¬ (0≤t.scale∧t.scale≤12)
 ·have c:t.kind=3:=by
   by_cases c:t.kind=3
   ·exact c
   ·exact absurd (i c) (by omega)
  have e:(decide (t.kind=3) && !(decide (0≤t.scale)&&decide (t.scale≤12)))=true:=by simp [c];omega
  rw [Ai (Or.inr q5),e];rfl
 ·have e:(decide (t.kind=3) && !(decide (0≤t.scale)&&decide (t.scale≤12)))=false:=by
   rw [Bool.eq_false_iff];simp;omega
  rw [Aj (fun q:_∨_=>q.elim q4 q5),e,NF,Aj (by decide),d]
inductive Ty.Good:Ty→Prop
 | mk (t:Ty) (h:Q3 t=0) (he:∀ x∈t.elem,Ty.Good x) (hf:∀ p∈t.fields,Ty.Good p.2.2.2.1):Ty.Good t
inductive Vl.Good:Vl→Prop
 | mk (v:Vl) (h:Gs v=0) (hp:∀ x∈BS v,Vl.Good x):Vl.Good v
theorem Zm:∀ (l:List (Nat × Vl)) (c:Int),W9 l c=0→∀ p∈l,Gs p.2=0
 | [],_,_,p,hp=>by simp at hp
 | q::r,c,h,p,hp=>by
  rw [W9] at h
  split at h
  ·cases h
  ·split at h
   ·cases h
   ·split at h
    ·rename_i h0
     rcases List.mem_cons.1 hp with rfl | hp
     ·exact h0
     ·exact Zm r (c+1) h p hp
    ·rename_i h0;exact absurd h h0
theorem To:∀ (k:Nat) (v:Vl) (lv:Nat),v.size≤k→(∀ p∈GU lv v,Gs p.2=0)→v.Good
 | 0,v,lv,h,_=>absurd h (by have:=v.size_eq;omega)
 | k+1,v,lv,h,hp=>by
  rw [Rn] at hp
  refine .mk v (hp (lv,v) (List.mem_cons_self ..)) fun x a=>?_
  have:=N7 a
  exact To k x (lv+1) (by omega) fun p b=>hp p (List.mem_cons_of_mem _ (List.mem_flatMap.2 ⟨x,a,b⟩))
theorem ZF {v:Vl} (h:U7 v=0):v.Good:=To v.size v 1 (Nat.le_refl _) (Zm _ _ h)
theorem Xl {v:Vl} (h:Gs v=0):¬ (v.kind<1∨10<v.kind)∧¬ Ef v=true:=by
 rw [Gs] at h
 by_cases h1:F5 v=true
 ·rw [Ai h1] at h;exact absurd h (by decide)
 rw [Aj h1] at h
 by_cases h2:v.kind<1∨10<v.kind
 ·rw [Ai h2] at h;exact absurd h (by decide)
 rw [Aj h2] at h
 by_cases h3:Ef v=true
 ·rw [Ai h3] at h;exact absurd h (by decide)
 exact ⟨h2,h3⟩
theorem S4 {t:Ty} (h:Q3 t=0):¬ (t.kind<1∨10<t.kind)∧¬ Bj t=true∧¬ ((t.kind=8∧t.elem.length=0)∨(t.kind=10∧t.fields.length=0)):=by
 rw [Q3] at h
 by_cases h1:t.kind<1∨10<t.kind
 ·rw [Ai h1] at h;exact absurd h (by decide)
 rw [Aj h1] at h
 by_cases h2:Bj t=true
 ·rw [Ai h2] at h;exact absurd h (by decide)
 rw [Aj h2] at h
 refine ⟨h1,h2,?_⟩
 by_cases h3:t.kind=4∧0<t.words.length
 ·omega
 rw [Aj h3] at h
 by_cases h4:((2≤t.kind∧t.kind≤8)∧B2 t (A2 t.kind).1 (A2 t.kind).2=false)∨¬ (0≤t.scale∧t.scale≤12)
 ·rw [Ai h4] at h;exact absurd h (by decide)
 rw [Aj h4] at h
 by_cases h5:(t.kind=8∧t.elem.length=0)∨(t.kind=10∧t.fields.length=0)
 ·rw [Ai h5] at h;exact absurd h (by decide)
 exact h5
theorem Ty.scale0 {t:Ty} (h:¬ Bj t=true) (k:t.kind≠3):t.scale=0:=by
 by_cases z:t.scale=0
 ·exact z
 ·exfalso;apply h;rw [Bj,Ag k,Ag z];simp
theorem Vl.scale0 {v:Vl} (h:¬ Ef v=true) (k:v.kind≠3):v.scale=0:=by
 by_cases z:v.scale=0
 ·exact z
 ·exfalso;apply h;rw [Ef,Ag k,Ag z];simp
theorem MM {α:Type} (p:α→Bool) (l:List α):decide (0≤PT p l 0)=l.any p:=by
 have := @List.findIdx_lt_length _ p l
 unfold PT
 rw [List.drop_zero]
 by_cases h:l.findIdx p<l.length
 ·rw [Ai h,Ad,List.any_eq_true.2 (this.1 h)]
 ·rw [Aj h,Ac]
  exact (Bool.eq_false_iff.2 fun q=>h (this.2 (List.any_eq_true.1 q))).symm
theorem ZhK {α:Type} (p:α→Bool) (l:List α):decide (PT p l 0<0) = !l.any p:=by
 rw [←MM]
 by_cases h:0≤PT p l 0
 ·rw [Ah h,Ac];rfl
 ·rw [Ag h,Ad];rfl
theorem ZfQ (n:Nat) (l:List (Vl)) (f:Vl→Option Bool) (p:Vl→Bool) (hf:∀ x∈l,f x=some (p x)) (hl:l.length≤1000000000):∀ (k m i:Nat),i+k=l.length→k<m→BG n l f m i=some (PT p l i)
 | k,0,i,_,h=>absurd h (Nat.not_lt_zero _)
 | 0,m+1,i,hi,_=>by
  rw [BG,AH,Ac,JO p l i (by omega)]
  rfl
 | k+1,m+1,i,hi,hm=>by
  have a:i<l.length:=by omega
  rw [BG,AH,Ah a,H3 p l i a]
  simp only [if_true,AK a,Af,hf _ (List.getElem_mem a)]
  by_cases h:p l[i]=true
  ·rw [Ai h,Ai h]
  ·rw [Aj h,Aj h,Ai (AG (by omega))]
   exact ZfQ n l f p hf hl k m (i+1) (by omega) (by omega)
theorem Zff (n:Nat) (l:List (ByteArray × Vl)) (f:ByteArray × Vl→Option Bool) (p:ByteArray × Vl→Bool) (hf:∀ x∈l,f x=some (p x)) (hl:l.length≤1000000000):∀ (k m i:Nat),i+k=l.length→k<m→BH n l f m i=some (PT p l i)
 | k,0,i,_,h=>absurd h (Nat.not_lt_zero _)
 | 0,m+1,i,hi,_=>by
  rw [BH,AH,Ac,JO p l i (by omega)]
  rfl
 | k+1,m+1,i,hi,hm=>by
  have a:i<l.length:=by omega
  rw [BH,AH,Ah a,H3 p l i a]
  simp only [if_true,AK a,Af,hf _ (List.getElem_mem a)]
  by_cases h:p l[i]=true
  ·rw [Ai h,Ai h]
  ·rw [Aj h,Aj h,Ai (AG (by omega))]
   exact Zff n l f p hf hl k m (i+1) (by omega) (by omega)
theorem ZeJ (n:Nat) (l:List (TF)) (f:TF→Option Bool) (p:TF→Bool) (hf:∀ x∈l,f x=some (p x)) (hl:l.length≤1000000000):∀ (k m i:Nat),i+k=l.length→k<m→AX n l f m i=some (PT p l i)
 | k,0,i,_,h=>absurd h (Nat.not_lt_zero _)
 | 0,m+1,i,hi,_=>by
  rw [AX,AH,Ac,JO p l i (by omega)]
  rfl
 | k+1,m+1,i,hi,hm=>by
  have a:i<l.length:=by omega
  rw [AX,AH,Ah a,H3 p l i a]
  simp only [if_true,AK a,Af,hf _ (List.getElem_mem a)]
  by_cases h:p l[i]=true
  ·rw [Ai h,Ai h]
  ·rw [Aj h,Aj h,Ai (AG (by omega))]
   exact ZeJ n l f p hf hl k m (i+1) (by omega) (by omega)
theorem ZeX (n:Nat) (l:List ByteArray) (w:ByteArray) (hl:(l).length≤1000000000):∀ (k m i:Nat),i+k=(l).length→k<m→Cj n l w m i=some (PT (fun x=>Fv w x) (l) i)
 | k,0,i,_,h=>absurd h (Nat.not_lt_zero _)
 | 0,m+1,i,hi,_=>by
  rw [Cj,AH,Ac,JO _ (l) i (by omega)]
  rfl
 | k+1,m+1,i,hi,hm=>by
  have a:i<(l).length:=by omega
  rw [Cj,AH,Ah a,H3 _ (l) i a]
  simp only [if_true,AK a,Af]
  by_cases h:(fun x=>Fv w x) (l)[i]=true
  ·rw [Ai h,Ai h]
  ·rw [Aj h,Aj h,Ai (AG (by omega))]
   exact ZeX n l w hl k m (i+1) (by omega) (by omega)
theorem YH (n:Nat) (l:List ByteArray) (w:ByteArray) (hl:l.length≤1000000000) (hn:l.length<n):Dz n l w=some (l.any fun x=>Fv w x):=by
 have e:GO n l w=some (PT (fun x=>Fv w x) l 0):=ZeX n l w hl l.length n 0 (by omega) hn
 rw [Dz,e,Af,MM]
theorem X4 (n:Nat) (l:List Vl) (f:Vl→Option Bool) (p:Vl→Bool) (hf:∀ x∈l,f x=some (p x)) (hl:l.length≤1000000000) (hn:l.length<n):CB n l f=some (l.any p):=by
 have e:E5 n l f=some (PT p l 0):=ZfQ n l f p hf hl l.length n 0 (by omega) hn
 rw [CB,e,Af,MM]
theorem X7 (n:Nat) (l:List TF) (f:TF→Option Bool) (p:TF→Bool) (hf:∀ x∈l,f x=some (p x)) (hl:l.length≤1000000000) (hn:l.length<n):AZ n l f=some (l.any p):=by
 have e:Bg n l f=some (PT p l 0):=ZeJ n l f p hf hl l.length n 0 (by omega) hn
 rw [AZ,e,Af,MM]
def ZfI (v:Vl) (w:ByteArray):Bool:=v.fields.any fun x=>Fv x.1 w
theorem Zcx (n:Nat) (v:Vl) (w:ByteArray) (hk:v.kind=9) (hs:v.size≤1000000000) (hn:v.size<n):∃ u,Nl n v w=some (u,ZfI v w):=by
 have a:=Px v
 have e:DF n v.fields (fun x=>some (IG x w))=some (PT (fun x:ByteArray × Vl=>Fv x.1 w) v.fields 0):=Zff n v.fields _ _ (fun x _=>rfl) (by omega) v.fields.length n 0 (by omega) (by omega)
 rw [Nl,Ph,e]
 simp only [Af]
 rw [Ah hk,ZhK]
 cases h:ZfI v w with
 | false =>
  unfold ZfI at h
  rw [h]
  exact ⟨_,rfl⟩
 | true =>
  unfold ZfI at h
  rw [h]
  simp only [Bool.not_true,Bool.or_self,Bool.false_eq_true,if_false]
  rcases RX (fun x:ByteArray × Vl=>Fv x.1 w) v.fields v.fields.length 0 (by omega) with q | ⟨i,hi,q,_⟩
  ·have:=MM (fun x:ByteArray × Vl=>Fv x.1 w) v.fields
   rw [q,h] at this
   cases this
  ·rw [q,AK hi]
   simp only [Af]
   have:=v.field_size _ (List.getElem_mem hi)
   rw [Sz n _ (by omega) (by omega)]
   exact ⟨_,rfl⟩
theorem Zdz (a b:ByteArray):Fv a b=Fv b a:=by rw [Bool.eq_iff_iff,PR,PR];exact eq_comm
def ZE (t:Ty) (k:Nat):Bool:=decide (t.min≤(k:Int))&&decide ((k:Int)≤t.max)
def Zet (v:Vl) (x:TF):Bool:=(!ZfI v x.2.1)&&(!(decide (x.2.2.1=2)))
theorem Ty.small_elem {t x:Ty} (h:t.small) (hx:x∈t.elem):x.small:=by
 obtain ⟨f,g,e⟩:=h
 have a:=t.elem_size x hx
 have b:=t.depth_eq
 have c:=(JC t.elem (Ih t.elem)).1 (Nat.le_refl _) x hx
 have d:Ih t.elem≤Max.max (Ih t.elem) (Gl t.fields):=Nat.le_max_left _ _
 exact ⟨by omega,by omega,(t.ok_eq.1 e).2.2.1 x hx⟩
theorem Ty.small_field {t:Ty} {p:TF} (h:t.small) (hx:p∈t.fields):p.2.2.2.1.small:=by
 obtain ⟨f,g,e⟩:=h
 have a:=t.field_size p hx
 have b:=t.depth_eq
 have c:=(IF t.fields (Gl t.fields)).1 (Nat.le_refl _) p hx
 have d:Gl t.fields≤Max.max (Ih t.elem) (Gl t.fields):=Nat.le_max_right _ _
 exact ⟨by omega,by omega,((t.ok_eq.1 e).2.2.2 p hx).2.1⟩
theorem PN {t x:Ty} (h:t.Good) (hx:x∈t.elem):x.Good:=by cases h with | mk _ a b c=>exact b x hx
theorem Iu {t:Ty} {p:TF} (h:t.Good) (hx:p∈t.fields):p.2.2.2.1.Good:=by cases h with | mk _ a b c=>exact c p hx
theorem Vr {t:Ty} (h:t.Good):Q3 t=0:=by cases h with | mk _ a b c=>exact a
theorem SN {v:Vl} (h:v.Good):Gs v=0:=by cases h with | mk _ a b=>exact a
theorem Qm {v x:Vl} (h:v.Good) (hx:x∈BS v):x.Good:=by cases h with | mk _ a b=>exact b x hx
def VC (k:Int) (x:TF):Prop:=(1≤x.2.2.1∧x.2.2.1≤3)∧(k=10→x.2.2.1=1)∧(x.2.2.1=3→x.2.2.2.2.length=1)∧(x.2.2.1≠3→x.2.2.2.2.length=0)
theorem Zbq {k:Int} {b:List TF} {x:TF} (h:Oi k b x=0):VC k x:=by
 rw [Oi] at h
 by_cases h1:FZ x.2.1=true
 rotate_left
 ·rw [Aj h1] at h;exact absurd h (by decide)
 rw [Ai h1] at h
 by_cases h2:¬ (1≤x.1∧x.1≤9999)
 ·rw [Ai h2] at h;exact absurd h (by decide)
 rw [Aj h2] at h
 by_cases h3:(b.any fun q=>E2 q x)=true
 ·rw [Ai h3] at h;exact absurd h (by decide)
 rw [Aj h3] at h
 by_cases h4:¬ (1≤x.2.2.1∧x.2.2.1≤3)∨(k=10∧x.2.2.1≠1)
 ·rw [Ai h4] at h;exact absurd h (by decide)
 rw [Aj h4] at h
 by_cases h5:x.2.2.1=3∧x.2.2.2.2.length=0
 ·rw [Ai h5] at h;exact absurd h (by decide)
 rw [Aj h5] at h
 by_cases h6:1<x.2.2.2.2.length∨(x.2.2.1≠3∧0<x.2.2.2.2.length)
 ·rw [Ai h6] at h;exact absurd h (by decide)
 unfold VC
 omega
theorem TX {k:Int}:∀ (l b:List TF),KC k b l=0→∀ x∈l,VC k x
 | [],_,_,x,hx=>by simp at hx
 | y::r,b,h,x,hx=>by
  rw [KC] at h
  by_cases q:Oi k b y=0
  ·rw [Ai q] at h
   rcases List.mem_cons.1 hx with rfl | hx
   ·exact Zbq q
   ·exact TX r _ h x hx
  ·rw [Aj q] at h;exact absurd h q
theorem Za0 {t:Ty} (h:¬ Bj t=true):(t.kind≠8→t.elem.length=0)∧(t.kind≠9→t.kind≠10→t.fields.length=0):=by
 refine ⟨fun k=>?_,fun b a=>?_⟩
 ·rcases Nat.eq_zero_or_pos t.elem.length with e | e
  ·exact e
  ·exfalso;apply h;rw [Bj,Ag k,Ah (show 0<(t.elem.length:Int) by omega)];simp
 ·rcases Nat.eq_zero_or_pos t.fields.length with e | e
  ·exact e
  ·exfalso;apply h;rw [Bj,Ag b,Ag a,Ah (show 0<(t.fields.length:Int) by omega)];simp
theorem UY {t:Ty} (h:Q3 t=0):¬ (t.kind<1∨10<t.kind)∧(t.kind≠8→t.elem.length=0)∧(t.kind=8→t.elem.length=1∧0≤t.min∧t.min≤256)∧(t.kind≠9→t.kind≠10→t.fields.length=0)∧(t.kind=10→0<t.fields.length)∧∀ x∈t.fields,VC t.kind x:=by
 obtain ⟨a,c,e⟩:=S4 h
 obtain ⟨n1,n2⟩:=Za0 c
 rw [Q3,Aj a,Aj c] at h
 by_cases h3:t.kind=4∧0<t.words.length
 ·have:=n2 (by omega) (by omega)
  have g:t.fields=[]:=List.length_eq_zero_iff.1 this
  exact ⟨a,n1,by omega,n2,by omega,by rw [g];simp⟩
 rw [Aj h3] at h
 by_cases h4:((2≤t.kind∧t.kind≤8)∧B2 t (A2 t.kind).1 (A2 t.kind).2=false)∨¬ (0≤t.scale∧t.scale≤12)
 ·rw [Ai h4] at h;exact absurd h (by decide)
 rw [Aj h4,Aj e] at h
 by_cases h6:1<t.elem.length
 ·rw [Ai h6] at h;exact absurd h (by decide)
 rw [Aj h6] at h
 by_cases h7:64<t.fields.length
 ·rw [Ai h7] at h;exact absurd h (by decide)
 rw [Aj h7] at h
 refine ⟨a,n1,fun f=>?_,n2,by omega,TX _ _ h⟩
 have b:B2 t (A2 t.kind).1 (A2 t.kind).2=true:=by
  cases q:B2 t (A2 t.kind).1 (A2 t.kind).2
  ·exact absurd (Or.inl ⟨by omega,q⟩) h4
  ·rfl
 have d:(A2 t.kind)=(0,256):=by rw [f];rfl
 rw [d,B2] at b
 simp only [Bool.and_eq_true,decide_eq_true_eq] at b
 omega
theorem Ty.fit_of {t:Ty} {n:Nat} (ht:t.small) (hn:t.size+2600000≤n):t.fit n:=by
 have g:=t.lens
 obtain ⟨e,_,d⟩:=ht
 obtain ⟨f,a,h,b⟩:=t.ok_eq.1 d
 exact ⟨by omega,by omega,by omega,by omega,by omega,by omega,a,fun p c=>(b p c).1⟩
theorem QN:∀ (k:Nat) (v:Vl) (lv:Nat),v.size≤k→(GU lv v).length≤v.size
 | 0,v,lv,h=>absurd h (by have:=v.size_eq;omega)
 | k+1,v,lv,h=>by
  have c:=Zdf v
  rw [Rn,List.length_cons,List.length_flatMap]
  have:((BS v).map fun x=>(GU (lv+1) x).length).sum≤((BS v).map Vl.size).sum:=by
   have hall:∀ x∈BS v,(GU (lv+1) x).length≤x.size:=fun x b=>QN k x (lv+1) (by have:=N7 b;omega)
   clear c
   generalize BS v=l at hall
   induction l with
   | nil=>simp
   | cons a r ih =>
    have:=hall a (List.mem_cons_self ..)
    have:=ih fun x b=>hall x (List.mem_cons_of_mem _ b)
    simp only [List.map_cons,List.sum_cons]
    omega
  omega
theorem ZaL:∀ (l:List (Nat × Vl)) (c:Int),0≤c→c+l.length≤1000000000→IQ l c=some (c+l.length)
 | [],c,_,_=>by rw [IQ];simp
 | p::r,c,h1,h2=>by
  rw [List.length_cons] at h2
  rw [IQ,Ai (by unfold A9;omega),ZaL r (c+1) (by omega) (by omega),List.length_cons]
  congr 1
  omega
theorem ZfA (v:Vl) (hs:v.size≤1048576):OT v=some ((GU 1 v).length:Int):=by
 have:=QN v.size v 1 (Nat.le_refl _)
 rw [OT,Ai ⟨by have:=v.depth_size;omega,Ht _ v (Nat.le_refl _) (by omega)⟩,ZaL _ 0 (by omega) (by omega)]
 congr 1
 omega
theorem Wc {s:ByteArray} (h:FZ s=true):s.size≤32:=by
 unfold FZ Zch at h
 simp only [Bool.and_eq_true,decide_eq_true_eq] at h
 have:s.size=s.data.toList.length:=by simp
 omega
theorem Zcj (k:Int):∀ (l b:List TF),KC k b l=0→∀ x∈l,∃ b',Oi k b' x=0
 | [],_,_,x,hx=>absurd hx (by simp)
 | y::r,b,h,x,hx=>by
  rw [KC] at h
  by_cases q:Oi k b y=0
  ·rw [Ai q] at h
   rcases List.mem_cons.1 hx with rfl | hx
   ·exact ⟨b,q⟩
   ·exact Zcj k r _ h x hx
  ·rw [Aj q] at h;exact absurd h q
theorem Zq {k:Int} {b:List TF} {x:TF} (h:Oi k b x=0):FZ x.2.1=true∧(1≤x.1∧x.1≤9999)∧(1≤x.2.2.1∧x.2.2.1≤3)∧(k=10→x.2.2.1=1)∧(x.2.2.1=3→x.2.2.2.2.length=1)∧(x.2.2.1≠3→x.2.2.2.2=[]):=by
 unfold Oi at h
 by_cases h1:FZ x.2.1=true
 ·rw [Ai h1] at h
  by_cases h2:¬ (1≤x.1∧x.1≤9999)
  ·rw [Ai h2] at h;exact absurd h (by decide)
  rw [Aj h2] at h
  by_cases h3:(b.any fun q=>E2 q x)=true
  ·rw [Ai h3] at h;exact absurd h (by decide)
  rw [Aj h3] at h
  by_cases h4:¬ (1≤x.2.2.1∧x.2.2.1≤3)∨(k=10∧x.2.2.1≠1)
  ·rw [Ai h4] at h;exact absurd h (by decide)
  rw [Aj h4] at h
  by_cases h5:x.2.2.1=3∧x.2.2.2.2.length=0
  ·rw [Ai h5] at h;exact absurd h (by decide)
  rw [Aj h5] at h
  by_cases h6:1<x.2.2.2.2.length∨(x.2.2.1≠3∧0<x.2.2.2.2.length)
  ·rw [Ai h6] at h;exact absurd h (by decide)
  refine ⟨h1,by omega,by omega,by omega,by omega,fun q=>?_⟩
  have:x.2.2.2.2.length=0:=by omega
  exact List.length_eq_zero_iff.1 this
 ·rw [Aj h1] at h;exact absurd h (by decide)
structure Ty.Own (t:Ty):Prop where
 kind:1≤t.kind∧t.kind≤10
 words:t.kind=4→0<t.words.length→t.min=0∧t.max=0∧t.words.length≤64∧ZbB none t.words=0
 nowords:t.kind≠4→t.words=[]
 noelem:t.kind≠8→t.elem=[]
 nofields:t.kind≠9→t.kind≠10→t.fields=[]
 noscale:t.kind≠3→t.scale=0
 nobounds:¬ (2≤t.kind∧t.kind≤8)→t.min=0∧t.max=0
 scale:0≤t.scale∧t.scale≤12
 bounds:(2≤t.kind∧t.kind≤8)→¬ (t.kind=4∧0<t.words.length)→(A2 t.kind).1≤t.min∧t.max≤(A2 t.kind).2∧t.min≤t.max
 elem:t.kind=8→∃ e,t.elem=[e]
 cases:t.kind=10→0<t.fields.length
 fields:t.fields.length≤64
 each:∀ x∈t.fields,FZ x.2.1=true∧(1≤x.1∧x.1≤9999)∧(1≤x.2.2.1∧x.2.2.1≤3)∧(t.kind=10→x.2.2.1=1)∧(x.2.2.1=3→x.2.2.2.2.length=1)∧(x.2.2.1≠3→x.2.2.2.2=[])
 apart:KC t.kind [] t.fields=0
theorem Ty.own_of {t:Ty} (h:Q3 t=0):t.Own:=by
 have p:=S4 h
 obtain ⟨r,l,s⟩:=p
 simp only [Bj,Bool.or_eq_true,Bool.and_eq_true,Bool.not_eq_true',Bool.and_eq_false_iff,decide_eq_false_iff_not,decide_eq_true_eq,not_or,not_and] at l
 obtain ⟨⟨⟨⟨k,g⟩,f⟩,n⟩,i⟩:=l
 have j:t.kind≠4→t.words=[]:=fun q=>List.length_eq_zero_iff.1 (by have:=f q;omega)
 have ne:t.kind≠8→t.elem=[]:=fun q=>List.length_eq_zero_iff.1 (by have:=n q;omega)
 have d:t.kind≠9→t.kind≠10→t.fields=[]:=fun q o=>List.length_eq_zero_iff.1 (by have:=i ⟨q,o⟩;omega)
 have c:t.kind≠3→t.scale=0:=fun q=>by
  have:=g q
  by_cases z:t.scale=0
  ·exact z
  ·exact absurd z this
 have m:¬ (2≤t.kind∧t.kind≤8)→t.min=0∧t.max=0:=fun q=>by
  have:=k (by omega)
  omega
 have u:=h
 rw [Q3,Aj r,Aj (by
  intro q
  simp only [Bj,Bool.or_eq_true,Bool.and_eq_true,Bool.not_eq_true',Bool.and_eq_false_iff,decide_eq_false_iff_not,decide_eq_true_eq] at q
  rcases q with (((q | q) | q) | q) | q
  ·have:=k q.1;have:=q.2;omega
  ·exact g q.1 q.2
  ·exact f q.1 q.2
  ·exact n q.1 q.2
  ·exact i q.1 q.2)] at h
 by_cases h3:t.kind=4∧0<t.words.length
 ·rw [Ai h3,OJ] at h
  by_cases w1:t.min≠0∨t.max≠0
  ·rw [Ai w1] at h;exact absurd h (by decide)
  rw [Aj w1] at h
  by_cases w2:64<t.words.length
  ·rw [Ai w2] at h;exact absurd h (by decide)
  rw [Aj w2] at h
  have ef:t.fields=[]:=d (by omega) (by omega)
  exact { kind:=by omega,words:=fun _ _=>⟨by omega,by omega,by omega,h⟩,nowords:=j,noelem:=ne,nofields:=d,noscale:=c,nobounds:=m,scale:=by have:=c (by omega);omega,bounds:=fun _ q=>absurd h3 q,elem:=fun q=>by omega,cases:=fun q=>by omega,fields:=by rw [ef];simp,each:=fun x hx=>by rw [ef] at hx;simp at hx,apart:=by rw [ef];rfl }
 rw [Aj h3] at h
 by_cases h4:((2≤t.kind∧t.kind≤8)∧B2 t (A2 t.kind).1 (A2 t.kind).2=false)∨¬ (0≤t.scale∧t.scale≤12)
 ·rw [Ai h4] at h;exact absurd h (by decide)
 rw [Aj h4] at h
 by_cases h5:(t.kind=8∧t.elem.length=0)∨(t.kind=10∧t.fields.length=0)
 ·rw [Ai h5] at h;exact absurd h (by decide)
 rw [Aj h5] at h
 by_cases h6:1<t.elem.length
 ·rw [Ai h6] at h;exact absurd h (by decide)
 rw [Aj h6] at h
 by_cases h7:64<t.fields.length
 ·rw [Ai h7] at h;exact absurd h (by decide)
 rw [Aj h7] at h
 refine { kind:=by omega,words:=fun a b=>absurd ⟨a,b⟩ h3,nowords:=j,noelem:=ne,nofields:=d,noscale:=c,nobounds:=m,scale:=by omega,bounds:=fun q _=>?_,elem:=fun q=>?_,cases:=fun q=>by omega,fields:=by omega,each:=fun x hx=>?_,apart:=h }
 ·have hb:B2 t (A2 t.kind).1 (A2 t.kind).2=true:=by
   cases hb:B2 t (A2 t.kind).1 (A2 t.kind).2 with
   | true=>rfl
   | false=>exact absurd (Or.inl ⟨q,hb⟩) h4
  unfold B2 at hb
  simp only [Bool.and_eq_true,decide_eq_true_eq] at hb
  exact ⟨hb.1.1,hb.1.2,hb.2⟩
 ·match he:t.elem with
  | []=>exact absurd (Or.inl ⟨q,by rw [he];rfl⟩) h5
  | [e]=>exact ⟨e,rfl⟩
  | _::_::_=>rw [he] at h6;simp at h6
 ·obtain ⟨v,hb⟩:=Zcj _ _ _ h x hx
  exact Zq hb
theorem Ty.Good.own {t:Ty} (h:t.Good):t.Own:=Ty.own_of (Vr h)
def Gy (b:Part):Option ByteArray :=
 if decide (b.kind=1) then
  if ((⟨#[46]⟩:ByteArray)).size+b.name.size≤9223372036854775807 then
   some (((⟨#[46]⟩:ByteArray))++b.name)
  else none
 else
  if decide (b.kind=2) then
   if A9 (b.index) then
    if ((⟨#[91]⟩:ByteArray)).size+((⟨(Lib.itoa b.index).toArray⟩:ByteArray)).size≤9223372036854775807 then
     if (((⟨#[91]⟩:ByteArray))++((⟨(Lib.itoa b.index).toArray⟩:ByteArray))).size+((⟨#[93]⟩:ByteArray)).size≤9223372036854775807 then
      some ((((⟨#[91]⟩:ByteArray))++((⟨(Lib.itoa b.index).toArray⟩:ByteArray)))++((⟨#[93]⟩:ByteArray)))
     else none
    else none
   else none
  else
   if decide (b.kind=3) then
    some ((⟨#[91,42,93]⟩:ByteArray))
   else
    if ((⟨#[63]⟩:ByteArray)).size+b.name.size≤9223372036854775807 then
     some (((⟨#[63]⟩:ByteArray))++b.name)
    else none
theorem O8 (w0:World) (hP:Pow10 w0) (B:Aq) (Rw:Aw) (L:Av) (a0:Part) (r:ByteArray) (h:Gy a0=some r) :
  ACalls Tryz.prog w0 233 [.agg (Am a0.kind::(Am a0.index::([.val (.string a0.name)])))] ⟨B,Rw,L⟩ fun x st=>x = .val (.string r)∧st=⟨B,Rw,L⟩:=by
 rw [Gy] at h
 refine hd [.tmp 2] Tryz.func233 Tryz.ntmps233 fun M0 W0 q o m b s l hs=>?_
 simp only [AB]
 refine rg [1] hs ?_
 apply An;intro K2 i
 refine rg [1,4] hs ?_
 apply Ar
 refine rg [1,4,5] hs ?_
 refine BL h hs ?_ ?_<;>intro hs h
 ·obtain ⟨n,h⟩:=Au h
  have j:=n
  try simp +decide only [go_sem] at j
  refine rg [2] hs ?_
  exact rt h hs b l
 refine rg [1,4,10] hs ?_
 refine BL h hs ?_ ?_<;>intro hs h
 ·obtain ⟨p,h⟩:=Au h
  obtain ⟨k,h⟩:=Au h
  have e:=k
  try simp +decide only [go_sem] at e
  obtain ⟨g,h⟩:=Au h
  have c:=g
  try simp +decide only [go_sem] at c
  exact go (tg (a:=([2],()))) h hs q o m b l (q1 (Zau w0)) trivial
 refine rg [1,17] hs ?_
 refine BL h hs ?_ ?_<;>intro hs h
 ·refine rg [2] hs ?_
  exact rt h hs b l
 refine sk [1] hs i ?_
 clear i
 obtain ⟨f,h⟩:=Au h
 have d:=f
 try simp +decide only [go_sem] at d
 refine rg [2] hs ?_
 exact rt h hs b l
def EN (b:Part) (g:Bool):Option Bool :=
 if g then
  if decide (b.index=0) then
   if b.name.size≤maxLen then
    some (FZ b.name)
   else none
  else
   some (false)
 else
  if decide (b.kind=2) then
   some (((Fv b.name (⟨#[]⟩:ByteArray))&&(decide (0≤b.index)))&&(decide (b.index<256)))
  else
   if decide (b.kind=3) then
    some ((Fv b.name (⟨#[]⟩:ByteArray))&&(decide (b.index=0)))
   else
    some (false)
def FM (b:Part):Option Bool :=
 if decide (b.kind=1) then
  EN b true
 else
  EN b (decide (b.kind=4))
theorem On (w0:World) (B:Aq) (Rw:Aw) (L:Av) (a0:Part) (r:Bool) (h:FM a0=some r) :
  ACalls Tryz.prog w0 157 [.agg (Am a0.kind::(Am a0.index::([.val (.string a0.name)])))] ⟨B,Rw,L⟩ fun x st=>x = .val (.bool r)∧st=⟨B,Rw,L⟩:=by
 rw [FM] at h
 refine hd [.tmp 2] Tryz.func157 Tryz.ntmps157 fun M0 W0 k f d c l g hs=>?_
 simp only [AB]
 refine rg [1] hs ?_
 apply An;intro K2 i
 refine rg [1,4] hs ?_
 apply Ar
 refine AA (fun e st=>∃ (b:Bool),Ck e st B Rw L [(1,true,.box B.length 0),(4,true,Am a0.kind),(5,true,.val (.bool b))] [Am a0.kind::(Am a0.index::([.val (.string a0.name)]))] [] (EN a0 b=some r)) ?_ ?_
 ·intro K6 j
  exact go (tg (a:=([1,4,5],([1,4,5],()),[1,4,5],()))) h hs k f d c g trivial (q1 j)
 ·clear h;rintro e st ⟨b,Xk5,Rk5,rfl,rfl,g,h⟩
  rw [EN] at h
  exact go (tg (a:=((([2],()),[2],()),[1,4,16],([2],()),[1,31],([2],()),[],[2],()))) h hs k f d c g (q1 (PQ w0)) (q1 i)
def MB (n:Nat)  (b:Int):Option Int :=
 if decide (200<b) then
  some (3)
 else
  some (0)
def F2 (n:Nat) (y:List Part):Nat→Int→Int→Option Int
 | 0,_,_=>none
 | m+1,g,b =>
  if decide (b<(y.length:Int)) then
   (BJ y b).bind fun q =>
   (FM q).bind fun z =>
   if !z then
    some (3)
   else
    (Gy q).bind fun h =>
    if A9 (g+(h.size:Int)) then
     if A9 (b+1) then
      (F2 n y m) (g+(h.size:Int)) (b+1)
     else none
    else none
  else
   MB n g
def JE (n:Nat) (b:List Part):Option Int :=
 if (decide ((b.length:Int)<1))||(decide (16<(b.length:Int))) then
  some (3)
 else
  (BJ b 0).bind fun g =>
  if !(decide (g.kind=1)) then
   some (3)
  else
   F2 n b n ((-1)) 0
theorem UC (w0:World) (hP:Pow10 w0) (n:Nat) (B:Aq) (Rw:Aw) (L:Av) (a0:List Part) (r:Int) (h:JE n a0=some r) :
  ACalls Tryz.prog w0 232 [.list (a0.map AD) .none] ⟨B,Rw,L⟩ fun x st=>x=Am r∧st=⟨B,Rw,L⟩:=by
 rw [JE] at h
 refine hd [.tmp 2] Tryz.func232 Tryz.ntmps232 fun M0 W0 t k j f w l hs=>?_
 simp only [AB]
 refine rg [0] hs ?_
 apply An;intro K2 o
 apply An;intro K3 i
 rcases Bool.eq_false_or_eq_true ((decide ((a0.length:Int)<1))||(decide (16<(a0.length:Int)))) with hf4 | hf4
 ·replace h:=Be h hf4
  exact go (tg (a:=([0,20],[2],()))) h (Ae hf4 hs) t k j f l trivial (q1 i)
 ·replace h:=Bh h hf4
  obtain ⟨y,v,u,g,h⟩:=ix AD h
  have p:(a0.map AD).getD 0 .junk=_:=g
  have hs:=Ae hf4 hs
  have hs:=Ae g hs
  have hs:=Ae p hs
  refine rl [0,20] hs i ?_
  clear i
  refine BL h hs ?_ ?_<;>intro hs h
  ·refine rg [2] hs ?_
   exact rt h hs f l
  refine sk [0] hs o ?_
  clear o
  refine rg [0,3] hs ?_
  refine AA (fun e st=>∃ (c:Int),Ck e st B Rw L [(3,true,Am c)] [] [] (MB n c=some r)) ?_ ?_
  ·intro K13 q
   refine rg [3,21,22,23] hs ?_
   apply Ar
   refine Az (fun m e st=>∃ (d:Int) (b:Int),Ck e st B Rw L [(3,true,Am d),(21,true,.list (a0.map AD) .none),(22,true,Am (a0.length:Int)),(23,true,Am b)] [] [] (F2 n a0 m d b=some r)) n ⟨((-1)),0,([]),Rw,ef hs,ef hs,l,h⟩ ?_
   rintro ml15 e st ⟨d,b,Xl15,Rl15,rfl,rfl,l,h⟩ Ul15 Vl15
   cases ml15 with
   | zero=>cases h
   | succ ml15 =>
   rw [F2] at h
   exact go (tg (a:=([3,21,22,23,24],([3,21,22,23],[3,5,21,22,23],[3,5,21,22,23,29],([2],()),[3,5,21,22,23],[3,21,22,23],[3,21,22,23],()),[3],()))) h hs t k j f l (q2 (On w0) (O8 w0 hP)) (q2 q (fun e s=>Vl15 ml15 e s (Nat.lt_succ_self _)))
  ·clear h;rintro e st ⟨c,Xk12,Rk12,rfl,rfl,l,h⟩
   rw [MB] at h
   exact go (tg (a:=([37],([2],()),[],[2],()))) h hs t k j f l trivial trivial
instance (k:IntKind) (n:Int):Decidable (inK k n):=by cases k<;>exact inferInstanceAs (Decidable (_∧_))
@[go_sem] theorem Zc2 (n:Int):UQ (.val (.int .u8 n))=(0≤n∧n≤255):=rfl
@[go_sem] theorem Ziv:G2 []=(⟨#[]⟩:ByteArray):=rfl
@[go_sem] theorem Zik (k:Nat):(∀ y∈List.replicate k (AV.val (.int .u8 0)),UQ y)↔True:=iff_true_intro fun y a=>by
 rw [List.eq_of_mem_replicate a,Zc2];omega
def Zdh (p:Part):Int:=if p.kind=1 then 1+p.name.size else if p.kind=2 then 2+(Lib.itoa p.index).length else if p.kind=3 then 3 else 1+p.name.size
def pOk (p:Part):Bool :=
 if p.kind=1∨p.kind=4 then decide (p.index=0)&&FZ p.name
 else if p.kind=2 then Fv p.name ⟨#[]⟩&&decide (0≤p.index)&&decide (p.index<256)
 else if p.kind=3 then Fv p.name ⟨#[]⟩&&decide (p.index=0) else false
theorem XJ (p:Part) (h:p.wf):FM p=some (pOk p):=by
 obtain ⟨_,_,a⟩:=h
 rw [FM,pOk]
 by_cases h1:p.kind=1
 ·rw [Ah h1,Ai rfl,EN,Ai rfl,Ai (Or.inl h1)]
  by_cases hi:p.index=0
  ·rw [Ah hi,Ai rfl,Ai a];rfl
  ·rw [Ag hi,Aj (by decide)];rfl
 rw [Ag h1,Aj (by decide),EN]
 by_cases h4:p.kind=4
 ·rw [Ah h4,Ai rfl,Ai (Or.inr h4)]
  by_cases hi:p.index=0
  ·rw [Ah hi,Ai rfl,Ai a];rfl
  ·rw [Ag hi,Aj (by decide)];rfl
 rw [Ag h4,Aj (by decide),Aj (show ¬ (p.kind=1∨p.kind=4) by omega)]
 by_cases h2:p.kind=2
 ·rw [Ah h2,Ai rfl,Ai h2]
 rw [Ag h2,Aj (by decide),Aj h2]
 by_cases h3:p.kind=3
 ·rw [Ah h3,Ai rfl,Ai h3]
 rw [Ag h3,Aj (by decide),Aj h3]
theorem Zfm (i:Int) (h0:0≤i) (h:i<256):(Lib.itoa i).length=if i<10 then 1 else if i<100 then 2 else 3:=by
 unfold Lib.itoa
 rw [Aa,Lib.decDigits_length]
 by_cases h1:i<10
 ·rw [Ai h1,Lib.nDigits_small (by omega)]
 rw [Aj h1,Lib.nDigits_big (by omega)]
 by_cases h2:i<100
 ·rw [Ai h2,Lib.nDigits_small (by omega)]
 rw [Aj h2,Lib.nDigits_big (by omega),Lib.nDigits_small (by omega)]
theorem Gu (l:Array UInt8):(⟨l⟩:ByteArray).size=l.size:=rfl
theorem Zo (p:Part) (h:pOk p=true):∃ s,Gy p=some s∧(s.size:Int)=Zdh p∧1≤Zdh p∧Zdh p≤40:=by
 unfold pOk at h
 rw [Gy,Zdh]
 by_cases h1:p.kind=1
 ·rw [Ai (Or.inl h1),Bool.and_eq_true] at h
  have b:=Wc h.2
  rw [Ah h1,Ai rfl,Ai h1,Ai (by rw [Gu];simp;omega)]
  refine ⟨_,rfl,?_,by omega,by omega⟩
  rw [ByteArray.size_append,Gu];simp
 rw [Ag h1,Aj (by decide),Aj h1]
 by_cases h2:p.kind=2
 ·rw [Aa,Ai h2,Bool.and_eq_true,Bool.and_eq_true] at h
  have q1:=of_decide_eq_true h.1.2
  have q2:=of_decide_eq_true h.2
  have a:=Zfm p.index q1 q2
  have c:(Lib.itoa p.index).length≤3:=by rw [a];repeat' split<;>try omega
  rw [Ah h2,Ai rfl,Ai h2,Ai (by unfold A9;omega),Ai (by rw [Gu,Gu];simp;omega),Ai (by rw [ByteArray.size_append,Gu,Gu,Gu];simp;omega)]
  refine ⟨_,rfl,?_,by omega,by omega⟩
  rw [ByteArray.size_append,ByteArray.size_append,Gu,Gu,Gu];simp;omega
 rw [Ag h2,Aj (by decide),Aj h2]
 by_cases h3:p.kind=3
 ·rw [Ah h3,Ai rfl,Ai h3]
  exact ⟨_,rfl,rfl,by decide,by decide⟩
 rw [Ag h3,Aj (by decide),Aj h3]
 by_cases h4:p.kind=4
 ·rw [Ai (Or.inr h4),Bool.and_eq_true] at h
  have b:=Wc h.2
  rw [Ai (by rw [Gu];simp;omega)]
  refine ⟨_,rfl,?_,by omega,by omega⟩
  rw [ByteArray.size_append,Gu];simp
 ·rw [Aa,Aj h2,Aj h3] at h
  exact absurd h (by decide)
def Zj9 (l:List Part):Int:=(l.map Zdh).sum
theorem U0 (n:Nat) (l:List Part) (hw:∀ p∈l,p.wf) (hl:l.length≤20):∀ (k m i:Nat) (c:Int),i+k=l.length→k<m → -1≤c→c≤40*i →
  F2 n l m c i=some (if ((l.drop i).all pOk&&decide (c+Zj9 (l.drop i)≤200))=true then 0 else 3)
 | k,0,i,_,_,h,_,_=>absurd h (Nat.not_lt_zero _)
 | 0,m+1,i,c,hi,_,_,_=>by
  rw [F2,AH,Ac,List.drop_eq_nil_of_le (by omega)]
  simp only [Bool.false_eq_true,if_false,MB,Zj9,List.map_nil,List.sum_nil,Int.add_zero,List.all_nil,Bool.true_and]
  by_cases q:200<c
  ·rw [Ai (Ah q),Aj (by rw [decide_eq_true_eq];omega)]
  ·rw [Aj (by rw [decide_eq_true_eq];omega),Ai (by rw [decide_eq_true_eq];omega)]
 | k+1,m+1,i,c,hi,hm,h1,h2=>by
  have a:i<l.length:=by omega
  rw [F2,AH,Ah a,List.drop_eq_getElem_cons a,List.all_cons]
  simp only [if_true,AK a,Af,XJ _ (hw _ (List.getElem_mem a))]
  cases hb:pOk l[i] with
  | false=>rfl
  | true =>
   obtain ⟨s,e,z,d,b⟩:=Zo _ hb
   simp only [Bool.not_true,Bool.false_eq_true,if_false,e,Af,Bool.true_and]
   rw [Ai (by unfold A9;omega),Ai (AG (by omega)),z]
   have ih:=U0 n l hw hl k m (i+1) (c+Zdh l[i]) (by omega) (by omega) (by omega) (by omega)
   rw [show ((i:Int)+1)=((i+1:Nat):Int) by omega,ih]
   simp only [Zj9,List.map_cons,List.sum_cons,Int.add_assoc]
end Go.Proofs.YtmcnjijeocmkgaaGreatDoor
namespace Go.Proofs
open Go.Shelf
def Tryz.lays119_ren:Go.Shelf.Ren:=⟨fun | 119=>323 | n=>n,fun | 21=>21 | 4=>4 | n=>n,fun | n=>n⟩
theorem Tryz.lays119:Go.Proofs.Lays.n119 Tryz.prog Tryz.lays119_ren:={
 mixed:=by kernel_rfl
 f119:=Tryz.func323.trans (congrArg some (by kernel_rfl))
 t4:=Tryz.underlying4
 a4:=Tryz.isAgg4
 z4:=Tryz.sizeOf4
 v4:=Tryz.zeroValue4
 t21:=Tryz.underlying21
 a21:=Tryz.isAgg21
 z21:=Tryz.sizeOf21
 v21:=Tryz.zeroValue21 }
theorem Tryz.utf8_ValidRune (r:Int) (w:World) :
  Calls Tryz.prog 323 #[.int .i32 r] w fun e w'=>e = .returned (.bool (Lib.validRune r))∧w'=w:=Any.utf8_ValidRune Tryz.lays119 r w
def Tryz.lays137_ren:Go.Shelf.Ren:=⟨fun | 137=>322 | 217=>357 | 266=>369 | n=>n,fun | 9=>9 | 5=>5 | 3=>3 | n=>n,fun | n=>n⟩
theorem Tryz.lays137:Go.Proofs.Lays.n137 Tryz.prog Tryz.lays137_ren:={
 mixed:=by kernel_rfl
 f137:=Tryz.func322.trans (congrArg some (by kernel_rfl))
 f217:=Tryz.func357.trans (congrArg some (by kernel_rfl))
 f266:=Tryz.func369.trans (congrArg some (by kernel_rfl))
 t3:=Tryz.underlying3
 a3:=Tryz.isAgg3
 z3:=Tryz.sizeOf3
 v3:=Tryz.zeroValue3
 t5:=Tryz.underlying5
 a5:=Tryz.isAgg5
 z5:=Tryz.sizeOf5
 v5:=Tryz.zeroValue5
 t9:=Tryz.underlying9
 a9:=Tryz.isAgg9
 z9:=Tryz.sizeOf9
 v9:=Tryz.zeroValue9 }
open Go.RowKit in
theorem Tryz.strings_IndexByte (s:ByteArray) (c:Int) (w:World) :
  Calls Tryz.prog 322 #[.string s,.int .u8 c] w fun e w'=>e = .returned (.int .i64 (Lib.indexByte s.data.toList c.toNat.toUInt8))∧w'=w:=Any.strings_IndexByte Tryz.lays137 s c w
def Tryz.lays145_ren:Go.Shelf.Ren:=⟨fun | 145=>237 | 220=>286 | 219=>326 | 217=>357 | 225=>325 | 224=>324 | 267=>358 | 266=>369 | 314=>370 | n=>n,fun | 9=>9 | 4=>4 | 59=>245 | 3=>3 | 5=>5 | 46=>231 | 146=>309 | 51=>299 | n=>n,fun | 1=>1 | n=>n⟩
theorem Tryz.lays145:Go.Proofs.Lays.n145 Tryz.prog Tryz.lays145_ren:={
 mixed:=by kernel_rfl
 f145:=Tryz.func237.trans (congrArg some (by kernel_rfl))
 f217:=Tryz.func357.trans (congrArg some (by kernel_rfl))
 f219:=Tryz.func326.trans (congrArg some (by kernel_rfl))
 f220:=Tryz.func286.trans (congrArg some (by kernel_rfl))
 f224:=Tryz.func324.trans (congrArg some (by kernel_rfl))
 f225:=Tryz.func325.trans (congrArg some (by kernel_rfl))
 f266:=Tryz.func369.trans (congrArg some (by kernel_rfl))
 f267:=Tryz.func358.trans (congrArg some (by kernel_rfl))
 f314:=Tryz.func370.trans (congrArg some (by kernel_rfl))
 t3:=Tryz.underlying3
 a3:=Tryz.isAgg3
 z3:=Tryz.sizeOf3
 v3:=Tryz.zeroValue3
 t4:=Tryz.underlying4
 a4:=Tryz.isAgg4
 z4:=Tryz.sizeOf4
 v4:=Tryz.zeroValue4
 t5:=Tryz.underlying5
 a5:=Tryz.isAgg5
 z5:=Tryz.sizeOf5
 v5:=Tryz.zeroValue5
 t9:=Tryz.underlying9
 a9:=Tryz.isAgg9
 z9:=Tryz.sizeOf9
 v9:=Tryz.zeroValue9
 t46:=Tryz.underlying231
 a46:=Tryz.isAgg231
 z46:=Tryz.sizeOf231
 v46:=Tryz.zeroValue231
 t51:=Tryz.underlying299
 a51:=Tryz.isAgg299
 z51:=Tryz.sizeOf299
 v51:=Tryz.zeroValue299
 t59:=Tryz.underlying245
 a59:=Tryz.isAgg245
 z59:=Tryz.sizeOf245
 v59:=Tryz.zeroValue245
 t146:=Tryz.underlying309
 a146:=Tryz.isAgg309
 z146:=Tryz.sizeOf309
 v146:=Tryz.zeroValue309
 g1:=by kernel_rfl }
open Go.RowKit Go.Lib in
theorem Tryz.strings_Cut (s sep:ByteArray) (m:Int) (w:World) (hs:s.size<4294967281) (hm:w.cell? ⟨1,0,none⟩=some (.int .i64 m)) :
  Calls Tryz.prog 237 #[.string s,.string sep] w fun e w'=>e = .returned (.tuple #[.string ⟨(Lib.cut s.data.toList sep.data.toList).1.toArray⟩,.string ⟨(Lib.cut s.data.toList sep.data.toList).2.1.toArray⟩,.bool (Lib.cut s.data.toList sep.data.toList).2.2])∧∃ n,w'=w.drewN n:=Any.strings_Cut Tryz.lays145 s sep m w hs hm
def Tryz.lays99_ren:Go.Shelf.Ren:=⟨fun | 99=>236 | 206=>285 | n=>n,fun | 9=>9 | 4=>4 | 3=>3 | n=>n,fun | n=>n⟩
theorem Tryz.lays99:Go.Proofs.Lays.n99 Tryz.prog Tryz.lays99_ren:={
 mixed:=by kernel_rfl
 f99:=Tryz.func236.trans (congrArg some (by kernel_rfl))
 f206:=Tryz.func285.trans (congrArg some (by kernel_rfl))
 t3:=Tryz.underlying3
 a3:=Tryz.isAgg3
 z3:=Tryz.sizeOf3
 v3:=Tryz.zeroValue3
 t4:=Tryz.underlying4
 a4:=Tryz.isAgg4
 z4:=Tryz.sizeOf4
 v4:=Tryz.zeroValue4
 t9:=Tryz.underlying9
 a9:=Tryz.isAgg9
 z9:=Tryz.sizeOf9
 v9:=Tryz.zeroValue9 }
open Go.RowKit Go.Lib in
theorem Tryz.strings_HasPrefix (s p:ByteArray) (w:World) :
  Calls Tryz.prog 236 #[.string s,.string p] w fun e w'=>e = .returned (.bool (Lib.hasPrefix s.data.toList p.data.toList))∧w'=w:=Any.strings_HasPrefix Tryz.lays99 s p w
def Tryz.lays152_ren:Go.Shelf.Ren:=⟨fun | 152=>281 | 137=>322 | 119=>323 | 224=>324 | 225=>325 | 217=>357 | 266=>369 | n=>n,fun | 9=>9 | 21=>21 | 3=>3 | 4=>4 | 5=>5 | 0=>0 | 46=>231 | n=>n,fun | n=>n⟩
theorem Tryz.lays152:Go.Proofs.Lays.n152 Tryz.prog Tryz.lays152_ren:={
 mixed:=by kernel_rfl
 f119:=Tryz.func323.trans (congrArg some (by kernel_rfl))
 f137:=Tryz.func322.trans (congrArg some (by kernel_rfl))
 f152:=Tryz.func281.trans (congrArg some (by kernel_rfl))
 f217:=Tryz.func357.trans (congrArg some (by kernel_rfl))
 f224:=Tryz.func324.trans (congrArg some (by kernel_rfl))
 f225:=Tryz.func325.trans (congrArg some (by kernel_rfl))
 f266:=Tryz.func369.trans (congrArg some (by kernel_rfl))
 t0:=Tryz.underlying0
 a0:=Tryz.isAgg0
 z0:=Tryz.sizeOf0
 v0:=Tryz.zeroValue0
 t3:=Tryz.underlying3
 a3:=Tryz.isAgg3
 z3:=Tryz.sizeOf3
 v3:=Tryz.zeroValue3
 t4:=Tryz.underlying4
 a4:=Tryz.isAgg4
 z4:=Tryz.sizeOf4
 v4:=Tryz.zeroValue4
 t5:=Tryz.underlying5
 a5:=Tryz.isAgg5
 z5:=Tryz.sizeOf5
 v5:=Tryz.zeroValue5
 t9:=Tryz.underlying9
 a9:=Tryz.isAgg9
 z9:=Tryz.sizeOf9
 v9:=Tryz.zeroValue9
 t21:=Tryz.underlying21
 a21:=Tryz.isAgg21
 z21:=Tryz.sizeOf21
 v21:=Tryz.zeroValue21
 t46:=Tryz.underlying231
 a46:=Tryz.isAgg231
 z46:=Tryz.sizeOf231
 v46:=Tryz.zeroValue231 }
open Go.RowKit Go.Lib in
theorem Tryz.strings_IndexRune_ascii (s:ByteArray) (r:Int) (w:World) (h0:0≤r) (h1:r<128) :
  Calls Tryz.prog 281 #[.string s,.int .i32 r] w fun e w'=>e = .returned (.int .i64 (Lib.indexByte s.data.toList r.toNat.toUInt8))∧w'=w:=Any.strings_IndexRune_ascii Tryz.lays152 s r w h0 h1
def Tryz.lays226_ren:Go.Shelf.Ren:=⟨fun | 226=>282 | n=>n,fun | 3=>3 | 4=>4 | n=>n,fun | n=>n⟩
theorem Tryz.lays226:Go.Proofs.Lays.n226 Tryz.prog Tryz.lays226_ren:={
 mixed:=by kernel_rfl
 f226:=Tryz.func282.trans (congrArg some (by kernel_rfl))
 t3:=Tryz.underlying3
 a3:=Tryz.isAgg3
 z3:=Tryz.sizeOf3
 v3:=Tryz.zeroValue3
 t4:=Tryz.underlying4
 a4:=Tryz.isAgg4
 z4:=Tryz.sizeOf4
 v4:=Tryz.zeroValue4 }
open Go.RowKit Go.Lib in
theorem Tryz.strings_shouldUseASCIISet (n:Int) (w:World) :
  Calls Tryz.prog 282 #[.int .i64 n] w fun e w'=>e = .returned (.bool (decide (8<n)))∧w'=w:=Any.strings_shouldUseASCIISet Tryz.lays226 n w
def Tryz.lays153_ren:Go.Shelf.Ren:=⟨fun | 153=>235 | 152=>281 | 226=>282 | 227=>283 | 228=>284 | 137=>322 | 119=>323 | 224=>324 | 225=>325 | 217=>357 | 266=>369 | n=>n,fun | 9=>9 | 3=>3 | 4=>4 | 5=>5 | 21=>21 | 117=>287 | 116=>286 | 0=>0 | 46=>231 | 124=>323 | n=>n,fun | n=>n⟩
theorem Tryz.lays153:Go.Proofs.Lays.n153 Tryz.prog Tryz.lays153_ren:={
 mixed:=by kernel_rfl
 f119:=Tryz.func323.trans (congrArg some (by kernel_rfl))
 f137:=Tryz.func322.trans (congrArg some (by kernel_rfl))
 f152:=Tryz.func281.trans (congrArg some (by kernel_rfl))
 f153:=Tryz.func235.trans (congrArg some (by kernel_rfl))
 f217:=Tryz.func357.trans (congrArg some (by kernel_rfl))
 f224:=Tryz.func324.trans (congrArg some (by kernel_rfl))
 f225:=Tryz.func325.trans (congrArg some (by kernel_rfl))
 f226:=Tryz.func282.trans (congrArg some (by kernel_rfl))
 f227:=Tryz.func283.trans (congrArg some (by kernel_rfl))
 f228:=Tryz.func284.trans (congrArg some (by kernel_rfl))
 f266:=Tryz.func369.trans (congrArg some (by kernel_rfl))
 t0:=Tryz.underlying0
 a0:=Tryz.isAgg0
 z0:=Tryz.sizeOf0
 v0:=Tryz.zeroValue0
 t3:=Tryz.underlying3
 a3:=Tryz.isAgg3
 z3:=Tryz.sizeOf3
 v3:=Tryz.zeroValue3
 t4:=Tryz.underlying4
 a4:=Tryz.isAgg4
 z4:=Tryz.sizeOf4
 v4:=Tryz.zeroValue4
 t5:=Tryz.underlying5
 a5:=Tryz.isAgg5
 z5:=Tryz.sizeOf5
 v5:=Tryz.zeroValue5
 t9:=Tryz.underlying9
 a9:=Tryz.isAgg9
 z9:=Tryz.sizeOf9
 v9:=Tryz.zeroValue9
 t21:=Tryz.underlying21
 a21:=Tryz.isAgg21
 z21:=Tryz.sizeOf21
 v21:=Tryz.zeroValue21
 t46:=Tryz.underlying231
 a46:=Tryz.isAgg231
 z46:=Tryz.sizeOf231
 v46:=Tryz.zeroValue231
 t116:=Tryz.underlying286
 a116:=Tryz.isAgg286
 z116:=Tryz.sizeOf286
 t117:=Tryz.underlying287
 a117:=Tryz.isAgg287
 z117:=Tryz.sizeOf287
 v117:=Tryz.zeroValue287
 t124:=Tryz.underlying323
 a124:=Tryz.isAgg323
 z124:=Tryz.sizeOf323
 v124:=Tryz.zeroValue323 }
open Go.RowKit Go.Lib in
theorem Tryz.strings_IndexAny_long (hv116:∀ w,(zeroValue 286).run Tryz.prog w = .ok (.agg (Array.replicate 256 (.bool false))) w) (s chars:ByteArray) (w:World) (h2:2≤chars.size) (h8:8<s.size) (hs:s.size<4294967281) (hcs:chars.size<4294967281) (hascii:∀ (j:Nat) b,chars.data.toList[j]? = some b→b.toNat<128) :
  Calls Tryz.prog 235 #[.string s,.string chars] w fun e w'=>e = .returned (.int .i64 (Lib.indexAny s.data.toList chars.data.toList))∧w'=((w.alloc (.cells (Lib.setCells chars.data.toList) 286)).alloc (.cells (Lib.setCells chars.data.toList) 286)):=Any.strings_IndexAny_long Tryz.lays153 hv116 (by kernel_rfl) s chars w h2 h8 hs hcs hascii
def Tryz.laysAtoi_ren:Go.Shelf.Ren:=⟨fun | 172=>238 | 244=>287 | 245=>288 | 247=>327 | 279=>328 | 280=>329 | 281=>330 | 282=>331 | 287=>359 | 316=>360 | 171=>134 | 205=>361 | 321=>371 | 322=>372 | 243=>206 | 246=>272 | 283=>315 | 284=>316 | 285=>317 | 286=>318 | 129=>299 | 317=>344 | 318=>345 | 319=>346 | 320=>347 | 337=>364 | 338=>365 | n=>n,fun | 9=>9 | 3=>3 | 75=>248 | 76=>249 | 4=>4 | 5=>5 | 167=>324 | 37=>167 | 0=>0 | 85=>325 | 2=>2 | 168=>327 | 53=>301 | 175=>346 | 46=>231 | 210=>349 | 127=>313 | 145=>359 | 143=>357 | 21=>21 | 171=>315 | 173=>317 | 212=>339 | 51=>299 | 20=>20 | 213=>340 | 232=>360 | 233=>361 | 80=>242 | n=>n,fun | 15=>5 | 16=>6 | 17=>4 | 18=>7 | 19=>8 | n=>n⟩
theorem Tryz.laysAtoi:Go.Proofs.LaysC.n172 Tryz.prog Tryz.laysAtoi_ren:={
 mixed:=by kernel_rfl
 f129:=Tryz.func299.trans (congrArg some (by kernel_rfl))
 f171:=Tryz.func134.trans (congrArg some (by kernel_rfl))
 f172:=Tryz.func238.trans (congrArg some (by kernel_rfl))
 f205:=Tryz.func361.trans (congrArg some (by kernel_rfl))
 f243:=Tryz.func206.trans (congrArg some (by kernel_rfl))
 f244:=Tryz.func287.trans (congrArg some (by kernel_rfl))
 f245:=Tryz.func288.trans (congrArg some (by kernel_rfl))
 f246:=Tryz.func272.trans (congrArg some (by kernel_rfl))
 f247:=Tryz.func327.trans (congrArg some (by kernel_rfl))
 f279:=Tryz.func328.trans (congrArg some (by kernel_rfl))
 f280:=Tryz.func329.trans (congrArg some (by kernel_rfl))
 f281:=Tryz.func330.trans (congrArg some (by kernel_rfl))
 f282:=Tryz.func331.trans (congrArg some (by kernel_rfl))
 f283:=Tryz.func315.trans (congrArg some (by kernel_rfl))
 f284:=Tryz.func316.trans (congrArg some (by kernel_rfl))
 f285:=Tryz.func317.trans (congrArg some (by kernel_rfl))
 f286:=Tryz.func318.trans (congrArg some (by kernel_rfl))
 f287:=Tryz.func359.trans (congrArg some (by kernel_rfl))
 f316:=Tryz.func360.trans (congrArg some (by kernel_rfl))
 f317:=Tryz.func344.trans (congrArg some (by kernel_rfl))
 f318:=Tryz.func345.trans (congrArg some (by kernel_rfl))
 f319:=Tryz.func346.trans (congrArg some (by kernel_rfl))
 f320:=Tryz.func347.trans (congrArg some (by kernel_rfl))
 f321:=Tryz.func371.trans (congrArg some (by kernel_rfl))
 f322:=Tryz.func372.trans (congrArg some (by kernel_rfl))
 f337:=Tryz.func364.trans (congrArg some (by kernel_rfl))
 f338:=Tryz.func365.trans (congrArg some (by kernel_rfl))
 t0:=Tryz.underlying0
 a0:=Tryz.isAgg0
 z0:=Tryz.sizeOf0
 v0:=Tryz.zeroValue0
 t2:=Tryz.underlying2
 a2:=Tryz.isAgg2
 z2:=Tryz.sizeOf2
 v2:=Tryz.zeroValue2
 t3:=Tryz.underlying3
 a3:=Tryz.isAgg3
 z3:=Tryz.sizeOf3
 v3:=Tryz.zeroValue3
 t4:=Tryz.underlying4
 a4:=Tryz.isAgg4
 z4:=Tryz.sizeOf4
 v4:=Tryz.zeroValue4
 t5:=Tryz.underlying5
 a5:=Tryz.isAgg5
 z5:=Tryz.sizeOf5
 v5:=Tryz.zeroValue5
 t9:=Tryz.underlying9
 a9:=Tryz.isAgg9
 z9:=Tryz.sizeOf9
 v9:=Tryz.zeroValue9
 t20:=Tryz.underlying20
 a20:=Tryz.isAgg20
 z20:=Tryz.sizeOf20
 v20:=Tryz.zeroValue20
 t21:=Tryz.underlying21
 a21:=Tryz.isAgg21
 z21:=Tryz.sizeOf21
 v21:=Tryz.zeroValue21
 t37:=Tryz.underlying167
 a37:=Tryz.isAgg167
 z37:=Tryz.sizeOf167
 v37:=Tryz.zeroValue167
 t46:=Tryz.underlying231
 a46:=Tryz.isAgg231
 z46:=Tryz.sizeOf231
 v46:=Tryz.zeroValue231
 t51:=Tryz.underlying299
 a51:=Tryz.isAgg299
 z51:=Tryz.sizeOf299
 v51:=Tryz.zeroValue299
 t53:=Tryz.underlying301
 a53:=Tryz.isAgg301
 z53:=Tryz.sizeOf301
 v53:=Tryz.zeroValue301
 t75:=Tryz.underlying248
 a75:=Tryz.isAgg248
 z75:=Tryz.sizeOf248
 v75:=Tryz.zeroValue248
 t76:=Tryz.underlying249
 a76:=Tryz.isAgg249
 z76:=Tryz.sizeOf249
 v76:=Tryz.zeroValue249
 t85:=Tryz.underlying325
 a85:=Tryz.isAgg325
 z85:=Tryz.sizeOf325
 v85:=Tryz.zeroValue325
 t127:=Tryz.underlying313
 a127:=Tryz.isAgg313
 z127:=Tryz.sizeOf313
 v127:=Tryz.zeroValue313
 t143:=Tryz.underlying357
 a143:=Tryz.isAgg357
 z143:=Tryz.sizeOf357
 v143:=Tryz.zeroValue357
 t145:=Tryz.underlying359
 a145:=Tryz.isAgg359
 z145:=Tryz.sizeOf359
 v145:=Tryz.zeroValue359
 t167:=Tryz.underlying324
 a167:=Tryz.isAgg324
 z167:=Tryz.sizeOf324
 v167:=Tryz.zeroValue324
 t168:=Tryz.underlying327
 a168:=Tryz.isAgg327
 z168:=Tryz.sizeOf327
 v168:=Tryz.zeroValue327
 t171:=Tryz.underlying315
 a171:=Tryz.isAgg315
 z171:=Tryz.sizeOf315
 v171:=Tryz.zeroValue315
 t173:=Tryz.underlying317
 a173:=Tryz.isAgg317
 z173:=Tryz.sizeOf317
 v173:=Tryz.zeroValue317
 t175:=Tryz.underlying346
 a175:=Tryz.isAgg346
 z175:=Tryz.sizeOf346
 v175:=Tryz.zeroValue346
 t210:=Tryz.underlying349
 a210:=Tryz.isAgg349
 z210:=Tryz.sizeOf349
 v210:=Tryz.zeroValue349
 t212:=Tryz.underlying339
 a212:=Tryz.isAgg339
 z212:=Tryz.sizeOf339
 v212:=Tryz.zeroValue339
 t213:=Tryz.underlying340
 a213:=Tryz.isAgg340
 z213:=Tryz.sizeOf340
 t232:=Tryz.underlying360
 a232:=Tryz.isAgg360
 z232:=Tryz.sizeOf360
 v232:=Tryz.zeroValue360
 t233:=Tryz.underlying361
 a233:=Tryz.isAgg361
 z233:=Tryz.sizeOf361
 v233:=Tryz.zeroValue361
 g15:=by kernel_rfl
 g16:=by kernel_rfl
 g17:=by kernel_rfl
 g18:=by kernel_rfl
 g19:=by kernel_rfl
 t80:=Tryz.underlying242
 a80:=Tryz.isAgg242
 z80:=Tryz.sizeOf242
 v80:=Tryz.zeroValue242
 i0:=by kernel_rfl
 i2:=by kernel_rfl
 i3:=by kernel_rfl
 i4:=by kernel_rfl
 i5:=by kernel_rfl
 i9:=by kernel_rfl
 i20:=by kernel_rfl
 i21:=by kernel_rfl
 i37:=by kernel_rfl
 i46:=by kernel_rfl
 i51:=by kernel_rfl
 i53:=by kernel_rfl
 i75:=by kernel_rfl
 i76:=by kernel_rfl
 i80:=by kernel_rfl
 i85:=by kernel_rfl
 i127:=by kernel_rfl
 i143:=by kernel_rfl
 i145:=by kernel_rfl
 i167:=by kernel_rfl
 i168:=by kernel_rfl
 i171:=by kernel_rfl
 i173:=by kernel_rfl
 i175:=by kernel_rfl
 i210:=by kernel_rfl
 i212:=by kernel_rfl
 i232:=by kernel_rfl
 i233:=by kernel_rfl
 m15:=by kernel_rfl
 m16:=by kernel_rfl
 m17:=by kernel_rfl
 m18:=by kernel_rfl
 m19:=by kernel_rfl
 c0:=by kernel_rfl
 c2:=by kernel_rfl
 c3:=by kernel_rfl
 c4:=by kernel_rfl
 c5:=by kernel_rfl
 c9:=by kernel_rfl
 c20:=by kernel_rfl
 c21:=by kernel_rfl
 c37:=by kernel_rfl
 c46:=by kernel_rfl
 c51:=by kernel_rfl
 c53:=by kernel_rfl
 c75:=by kernel_rfl
 c76:=by kernel_rfl
 c80:=by kernel_rfl
 c85:=by kernel_rfl
 c127:=by kernel_rfl
 c143:=by kernel_rfl
 c145:=by kernel_rfl
 c167:=by kernel_rfl
 c168:=by kernel_rfl
 c171:=by kernel_rfl
 c173:=by kernel_rfl
 c175:=by kernel_rfl
 c210:=by kernel_rfl
 c212:=by kernel_rfl
 c213:=by kernel_rfl
 c232:=by kernel_rfl
 c233:=by kernel_rfl }
def Tryz.laysComp_ren:Go.Shelf.Ren:=⟨fun | 194=>160 | n=>n,fun | 31=>22 | 9=>9 | 3=>3 | 4=>4 | 0=>0 | n=>n,fun | n=>n⟩
theorem Tryz.laysComp:Go.Proofs.Lays.n194 Tryz.prog Tryz.laysComp_ren:={
 mixed:=by kernel_rfl
 f194:=Tryz.func160.trans (congrArg some (by kernel_rfl))
 t0:=Tryz.underlying0
 a0:=Tryz.isAgg0
 z0:=Tryz.sizeOf0
 v0:=Tryz.zeroValue0
 t3:=Tryz.underlying3
 a3:=Tryz.isAgg3
 z3:=Tryz.sizeOf3
 v3:=Tryz.zeroValue3
 t4:=Tryz.underlying4
 a4:=Tryz.isAgg4
 z4:=Tryz.sizeOf4
 v4:=Tryz.zeroValue4
 t9:=Tryz.underlying9
 a9:=Tryz.isAgg9
 z9:=Tryz.sizeOf9
 v9:=Tryz.zeroValue9
 t31:=Tryz.underlying22
 a31:=Tryz.isAgg22
 z31:=Tryz.sizeOf22
 v31:=Tryz.zeroValue22 }
def Tryz.laysSortS_ren:Go.Shelf.Ren:=⟨fun | 190=>159 | 125=>240 | 258=>239 | 128=>298 | 129=>299 | 302=>289 | 303=>290 | 304=>291 | 305=>292 | 306=>293 | 307=>294 | 308=>295 | 309=>296 | 310=>297 | 333=>332 | 329=>333 | 330=>334 | 334=>335 | 335=>336 | 336=>337 | 344=>362 | n=>n,fun | 31=>22 | 9=>9 | 3=>3 | 46=>231 | 0=>0 | 51=>299 | 53=>301 | 4=>4 | 183=>293 | 182=>292 | 131=>90 | 5=>5 | 218=>330 | 222=>135 | 228=>351 | 229=>302 | n=>n,fun | n=>n⟩
theorem Tryz.laysSortS:Go.Proofs.Lays.n190 Tryz.prog Tryz.laysSortS_ren:={
 mixed:=by kernel_rfl
 f125:=Tryz.func240.trans (congrArg some (by kernel_rfl))
 f128:=Tryz.func298.trans (congrArg some (by kernel_rfl))
 f129:=Tryz.func299.trans (congrArg some (by kernel_rfl))
 f190:=Tryz.func159.trans (congrArg some (by kernel_rfl))
 f258:=Tryz.func239.trans (congrArg some (by kernel_rfl))
 f302:=Tryz.func289.trans (congrArg some (by kernel_rfl))
 f303:=Tryz.func290.trans (congrArg some (by kernel_rfl))
 f304:=Tryz.func291.trans (congrArg some (by kernel_rfl))
 f305:=Tryz.func292.trans (congrArg some (by kernel_rfl))
 f306:=Tryz.func293.trans (congrArg some (by kernel_rfl))
 f307:=Tryz.func294.trans (congrArg some (by kernel_rfl))
 f308:=Tryz.func295.trans (congrArg some (by kernel_rfl))
 f309:=Tryz.func296.trans (congrArg some (by kernel_rfl))
 f310:=Tryz.func297.trans (congrArg some (by kernel_rfl))
 f329:=Tryz.func333.trans (congrArg some (by kernel_rfl))
 f330:=Tryz.func334.trans (congrArg some (by kernel_rfl))
 f333:=Tryz.func332.trans (congrArg some (by kernel_rfl))
 f334:=Tryz.func335.trans (congrArg some (by kernel_rfl))
 f335:=Tryz.func336.trans (congrArg some (by kernel_rfl))
 f336:=Tryz.func337.trans (congrArg some (by kernel_rfl))
 f344:=Tryz.func362.trans (congrArg some (by kernel_rfl))
 t0:=Tryz.underlying0
 a0:=Tryz.isAgg0
 z0:=Tryz.sizeOf0
 v0:=Tryz.zeroValue0
 t3:=Tryz.underlying3
 a3:=Tryz.isAgg3
 z3:=Tryz.sizeOf3
 v3:=Tryz.zeroValue3
 t4:=Tryz.underlying4
 a4:=Tryz.isAgg4
 z4:=Tryz.sizeOf4
 v4:=Tryz.zeroValue4
 t5:=Tryz.underlying5
 a5:=Tryz.isAgg5
 z5:=Tryz.sizeOf5
 v5:=Tryz.zeroValue5
 t9:=Tryz.underlying9
 a9:=Tryz.isAgg9
 z9:=Tryz.sizeOf9
 v9:=Tryz.zeroValue9
 t31:=Tryz.underlying22
 a31:=Tryz.isAgg22
 z31:=Tryz.sizeOf22
 v31:=Tryz.zeroValue22
 t46:=Tryz.underlying231
 a46:=Tryz.isAgg231
 z46:=Tryz.sizeOf231
 v46:=Tryz.zeroValue231
 t51:=Tryz.underlying299
 a51:=Tryz.isAgg299
 z51:=Tryz.sizeOf299
 v51:=Tryz.zeroValue299
 t53:=Tryz.underlying301
 a53:=Tryz.isAgg301
 z53:=Tryz.sizeOf301
 v53:=Tryz.zeroValue301
 t131:=Tryz.underlying90
 a131:=Tryz.isAgg90
 z131:=Tryz.sizeOf90
 v131:=Tryz.zeroValue90
 t182:=Tryz.underlying292
 a182:=Tryz.isAgg292
 z182:=Tryz.sizeOf292
 v182:=Tryz.zeroValue292
 t183:=Tryz.underlying293
 a183:=Tryz.isAgg293
 z183:=Tryz.sizeOf293
 v183:=Tryz.zeroValue293
 t218:=Tryz.underlying330
 a218:=Tryz.isAgg330
 z218:=Tryz.sizeOf330
 v218:=Tryz.zeroValue330
 t222:=Tryz.underlying135
 a222:=Tryz.isAgg135
 z222:=Tryz.sizeOf135
 v222:=Tryz.zeroValue135
 t228:=Tryz.underlying351
 a228:=Tryz.isAgg351
 z228:=Tryz.sizeOf351
 v228:=Tryz.zeroValue351
 t229:=Tryz.underlying302
 a229:=Tryz.isAgg302
 z229:=Tryz.sizeOf302
 v229:=Tryz.zeroValue302 }
end Go.Proofs
namespace Go.Proofs
open Go.Shelf Go.RowKit Go.Lib Go
variable {P:Program} {ρ:Ren}
abbrev stops:ByteArray:=⟨#[46,91,63]⟩
theorem Zp:∀ (i:Nat) (h:i<stops.size),(stops[i]'h).toNat<128∧((stops[i]'h).toNat:Int)≠65533:=by decide
theorem ZiL (n:Nat):128≤(UInt8.ofNat (128+n % 64)).toNat:=by rw [UInt8.toNat_ofNat'];omega
theorem ZcS (r:Int) (h0:128≤r):(∃ a b,Utf8.encode r=⟨#[a,b]⟩∧128≤b.toNat)∨(∃ a b c,Utf8.encode r=⟨#[a,b,c]⟩∧128≤c.toNat)∨∃ a b c d,Utf8.encode r=⟨#[a,b,c,d]⟩:=by
 obtain ⟨c,hc,he⟩:∃ c:Nat,128≤c∧(if Utf8.valid r=true then r.toNat else Utf8.runeError)=c:=by
  by_cases h:Utf8.valid r=true
  ·exact ⟨r.toNat,by omega,by rw [Ai h]⟩
  ·exact ⟨Utf8.runeError,by decide,by rw [Aj h]⟩
 unfold Utf8.encode
 simp only [he]
 rw [Aa]
 by_cases h1:c<2048
 ·rw [Ai h1];exact .inl ⟨_,_,rfl,ZiL _⟩
 rw [Aj h1]
 by_cases h2:c<65536
 ·rw [Ai h2];exact .inr (.inl ⟨_,_,_,rfl,ZiL _⟩)
 ·rw [Aj h2];exact .inr (.inr ⟨_,_,_,_,rfl⟩)
set_option maxRecDepth 1000000 in
theorem ZbQ (L:Lays.n152 P ρ) (w:World) :
  Calls P (ρ.f 152) #[.string stops,.int .i32 65533] w fun e w'=>e = .returned (.int .i64 (-1))∧∃ pos,w'=w.iter stops pos:=by
 have t3:=L.t3;have a3:=L.a3;have z3:=L.z3;have v3:=L.v3
 have t4:=L.t4;have a4:=L.a4;have z4:=L.z4;have v4:=L.v4
 have t5:=L.t5;have a5:=L.a5;have z5:=L.z5;have v5:=L.v5
 have t9:=L.t9;have a9:=L.a9;have z9:=L.z9;have v9:=L.v9
 have t21:=L.t21;have a21:=L.a21;have z21:=L.z21;have v21:=L.v21
 go_enter L.f152,Body.n152_ntmps ρ
 go_wp2
 go_loopg [5,6] 3 (fun g _ _ wx=>∃ i:Nat,i+g=3∧wx=w.iter stops i)
 case atStart=>exact ⟨0,by omega,rfl⟩
 case round =>
  obtain ⟨i,hig,rfl⟩:=hrel
  cases gk with
  | zero =>
   obtain rfl:i=3:=by omega
   have hnx:=run_next_end (P:=P) w stops 3
   go_wp2
   go_ret
   exact ⟨rfl,_,rfl⟩
  | succ g =>
   have hi:i<stops.size:=by show i<3;omega
   obtain ⟨x,hx⟩:∃ x:UInt8,stops[i]'hi=x:=⟨_,rfl⟩
   obtain ⟨hx128,hxn⟩:=Zp i hi
   have hnx:=fun ty=>run_next_ascii (P:=P) w stops i ty hi hx128
   rw [hx] at hnx hxn
   have hb:((x.toNat:Int) == 65533)=false:=beq_eq_false_iff_ne.2 hxn
   go_wp2
   go_roundg g
   case measure=>omega
   case rel=>exact ⟨i+1,by omega,rfl⟩
set_option maxRecDepth 1000000 in
theorem Zfd (L:Lays.n152 P ρ) (r:Int) (w:World) (h0:128≤r) (h1:r≠65533) (hv:Lib.validRune r=false) :
  Calls P (ρ.f 152) #[.string stops,.int .i32 r] w fun e w'=>e = .returned (.int .i64 (-1))∧Below w.heap.size w w':=by
 have t3:=L.t3;have a3:=L.a3;have z3:=L.z3;have v3:=L.v3
 have t4:=L.t4;have a4:=L.a4;have z4:=L.z4;have v4:=L.v4
 have t5:=L.t5;have a5:=L.a5;have z5:=L.z5;have v5:=L.v5
 have t9:=L.t9;have a9:=L.a9;have z9:=L.z9;have v9:=L.v9
 have t21:=L.t21;have a21:=L.a21;have z21:=L.z21;have v21:=L.v21
 have e119:∀ args w,(callFunc (ρ.f 119) args).run P w = .ok (.enter (ρ.f 119) args) w:=enters_of L.f119 (by kernel_rfl) rfl
 have hlt:¬ r<128:=by omega
 have hne:(r == 65533)=false:=beq_eq_false_iff_ne.2 h1
 go_enter L.f152,Body.n152_ntmps ρ
 go_wp2_with (go_at_fn (ρ.f 119);refine (Any.utf8_ValidRune { L with } _ _).mono ?_;rintro e w' ⟨rfl,hw⟩;rw [hw,hv])
 go_ret
 exact ⟨rfl,.refl _ _⟩
set_option maxRecDepth 1000000 in
theorem ZeY (L:Lays.n152 P ρ) (r:Int) (w:World) (h0:128≤r) (h1:r≠65533) (hv:Lib.validRune r=true) (a b:UInt8) (he:Utf8.encode r=⟨#[a,b]⟩) (hb:128≤b.toNat) :
  Calls P (ρ.f 152) #[.string stops,.int .i32 r] w fun e w'=>e = .returned (.int .i64 (-1))∧Below w.heap.size w w':=by
 have mixed:=L.mixed
 have t3:=L.t3;have a3:=L.a3;have z3:=L.z3;have v3:=L.v3
 have t4:=L.t4;have a4:=L.a4;have z4:=L.z4;have v4:=L.v4
 have t5:=L.t5;have a5:=L.a5;have z5:=L.z5;have v5:=L.v5
 have t9:=L.t9;have a9:=L.a9;have z9:=L.z9;have v9:=L.v9
 have t21:=L.t21;have a21:=L.a21;have z21:=L.z21;have v21:=L.v21
 have e119:∀ args w,(callFunc (ρ.f 119) args).run P w = .ok (.enter (ρ.f 119) args) w:=enters_of L.f119 (by kernel_rfl) rfl
 have e137:∀ args w,(callFunc (ρ.f 137) args).run P w = .ok (.enter (ρ.f 137) args) w:=enters_of L.f137 (by kernel_rfl) rfl
 have hlt:¬ r<128:=by omega
 have hne:(r == 65533)=false:=beq_eq_false_iff_ne.2 h1
 have hbn:(((stops[1]'(by decide)).toNat:Int) != (((⟨#[a,b]⟩:ByteArray)[1]'(by simp [ByteArray.size])).toNat:Int))=true:=bne_iff_ne.2 (by show (91:Int)≠(b.toNat:Int);omega)
 have hsum:IntKind.i64.wrap (1+1)=2:=by decide
 have hx:Lib.indexByte (stops.extract 2 3).data.toList ((((⟨#[a,b]⟩:ByteArray)[1]'(by simp [ByteArray.size])).toNat:Int)).toNat.toUInt8 = -1:=by
  show Lib.indexByte [63] (b.toNat:Int).toNat.toUInt8 = -1
  have e:(b.toNat:Int).toNat.toUInt8=b:=by simp
  rw [e]
  have hn:((63:UInt8) == b)=false:=beq_eq_false_iff_ne.2 (fun q=>by rw [←q] at hb;exact absurd hb (by decide))
  simp [Lib.indexByte,hn]
 go_enter L.f152,Body.n152_ntmps ρ
 go_wp2_with (first
  | (go_at_fn (ρ.f 119);refine (Any.utf8_ValidRune { L with } _ _).mono ?_;rintro e w' ⟨rfl,hw⟩;rw [hw,hv])
  | (go_at_fn (ρ.f 137);refine (Any.strings_IndexByte { L with } _ _ _).mono ?_;rintro e w' ⟨rfl,hw⟩;rw [hw]))
 go_step3
 go_wp2
 go_loopg [9] 1 (fun g s9 wx=>s9 = .int .i64 1∧wx=w)
 case atStart=>exact ⟨rfl,rfl⟩
 case round =>
  obtain ⟨rfl,rfl⟩:=hrel
  go_wp2
  go_step3
  go_wp2
  refine wp_region_quiet_lit mixed (by kernel_rfl) ?_
  repeat (first | go_big_quiet_step (fail) | quiet_step (fail))
  refine wpQuiet_nil ?_
  intro _ hw'
  obtain ⟨nq,hw''⟩:=hw'
  subst hw''
  go_wp2
  refine wp_region_quiet_lit mixed (by kernel_rfl) ?_
  repeat (first | go_big_quiet_step (fail) | quiet_step (fail))
  refine wpQuiet_step (fun K hK=>?_)
  go_simp
  refine ⟨_,fun q=>((Any.strings_IndexByte { L with } _ _ _).mono fun e w' h=>⟨h.1,q,h.2⟩),hK _ ?_⟩
  clear hK K
  repeat (first | go_big_quiet_step (fail) | quiet_step (fail))
  refine wpQuiet_nil ?_
  intro _ hw'
  obtain ⟨nq2,hw''⟩:=hw'
  subst hw''
  rw [hx]
  go_wp2
  go_simp
  try rw [Exit.noGoto_ret]
  go_ret
  exact ⟨rfl,⟨rfl,rfl,rfl,Nat.le_refl _,fun _ _=>rfl⟩⟩
set_option maxRecDepth 1000000 in
theorem Zbe (L:Lays.n152 P ρ) (r:Int) (w:World) (h0:128≤r) (h1:r≠65533) (hv:Lib.validRune r=true) (a b c:UInt8) (he:Utf8.encode r=⟨#[a,b,c]⟩) (hb:128≤c.toNat) :
  Calls P (ρ.f 152) #[.string stops,.int .i32 r] w fun e w'=>e = .returned (.int .i64 (-1))∧Below w.heap.size w w':=by
 have mixed:=L.mixed
 have t3:=L.t3;have a3:=L.a3;have z3:=L.z3;have v3:=L.v3
 have t4:=L.t4;have a4:=L.a4;have z4:=L.z4;have v4:=L.v4
 have t5:=L.t5;have a5:=L.a5;have z5:=L.z5;have v5:=L.v5
 have t9:=L.t9;have a9:=L.a9;have z9:=L.z9;have v9:=L.v9
 have t21:=L.t21;have a21:=L.a21;have z21:=L.z21;have v21:=L.v21
 have e119:∀ args w,(callFunc (ρ.f 119) args).run P w = .ok (.enter (ρ.f 119) args) w:=enters_of L.f119 (by kernel_rfl) rfl
 have e137:∀ args w,(callFunc (ρ.f 137) args).run P w = .ok (.enter (ρ.f 137) args) w:=enters_of L.f137 (by kernel_rfl) rfl
 have hlt:¬ r<128:=by omega
 have hne:(r == 65533)=false:=beq_eq_false_iff_ne.2 h1
 have hbn:(((stops[2]'(by decide)).toNat:Int) != (((⟨#[a,b,c]⟩:ByteArray)[2]'(by simp [ByteArray.size])).toNat:Int))=true:=bne_iff_ne.2 (by show (63:Int)≠(c.toNat:Int);omega)
 have hsum:IntKind.i64.wrap (2+1)=3:=by decide
 have hx:Lib.indexByte ByteArray.empty.data.toList ((((⟨#[a,b,c]⟩:ByteArray)[2]'(by simp [ByteArray.size])).toNat:Int)).toNat.toUInt8 = -1:=by
  show Lib.indexByte [] (c.toNat:Int).toNat.toUInt8 = -1
  have e:(c.toNat:Int).toNat.toUInt8=c:=by simp
  rw [e]
  rfl
 go_enter L.f152,Body.n152_ntmps ρ
 go_wp2_with (first
  | (go_at_fn (ρ.f 119);refine (Any.utf8_ValidRune { L with } _ _).mono ?_;rintro e w' ⟨rfl,hw⟩;rw [hw,hv])
  | (go_at_fn (ρ.f 137);refine (Any.strings_IndexByte { L with } _ _ _).mono ?_;rintro e w' ⟨rfl,hw⟩;rw [hw]))
 go_step3
 go_wp2
 go_loopg [9] 1 (fun g s9 wx=>s9 = .int .i64 2∧wx=w)
 case atStart=>exact ⟨rfl,rfl⟩
 case round =>
  obtain ⟨rfl,rfl⟩:=hrel
  go_wp2
  go_step3
  go_wp2
  refine wp_region_quiet_lit mixed (by kernel_rfl) ?_
  repeat (first | go_big_quiet_step (fail) | quiet_step (fail))
  refine wpQuiet_nil ?_
  intro _ hw'
  obtain ⟨nq,hw''⟩:=hw'
  subst hw''
  go_wp2
  refine wp_region_quiet_lit mixed (by kernel_rfl) ?_
  repeat (first | go_big_quiet_step (fail) | quiet_step (fail))
  refine wpQuiet_step (fun K hK=>?_)
  go_simp
  refine ⟨_,fun q=>((Any.strings_IndexByte { L with } _ _ _).mono fun e w' h=>⟨h.1,q,h.2⟩),hK _ ?_⟩
  clear hK K
  repeat (first | go_big_quiet_step (fail) | quiet_step (fail))
  refine wpQuiet_nil ?_
  intro _ hw'
  obtain ⟨nq2,hw''⟩:=hw'
  subst hw''
  rw [hx]
  go_wp2
  go_simp
  try rw [Exit.noGoto_ret]
  go_ret
  exact ⟨rfl,⟨rfl,rfl,rfl,Nat.le_refl _,fun _ _=>rfl⟩⟩
set_option maxRecDepth 1000000 in
theorem ZcH (L:Lays.n152 P ρ) (r:Int) (w:World) (h0:128≤r) (h1:r≠65533) (hv:Lib.validRune r=true) (a b c d:UInt8) (he:Utf8.encode r=⟨#[a,b,c,d]⟩) :
  Calls P (ρ.f 152) #[.string stops,.int .i32 r] w fun e w'=>e = .returned (.int .i64 (-1))∧Below w.heap.size w w':=by
 have mixed:=L.mixed
 have t3:=L.t3;have a3:=L.a3;have z3:=L.z3;have v3:=L.v3
 have t4:=L.t4;have a4:=L.a4;have z4:=L.z4;have v4:=L.v4
 have t5:=L.t5;have a5:=L.a5;have z5:=L.z5;have v5:=L.v5
 have t9:=L.t9;have a9:=L.a9;have z9:=L.z9;have v9:=L.v9
 have t21:=L.t21;have a21:=L.a21;have z21:=L.z21;have v21:=L.v21
 have e119:∀ args w,(callFunc (ρ.f 119) args).run P w = .ok (.enter (ρ.f 119) args) w:=enters_of L.f119 (by kernel_rfl) rfl
 have e137:∀ args w,(callFunc (ρ.f 137) args).run P w = .ok (.enter (ρ.f 137) args) w:=enters_of L.f137 (by kernel_rfl) rfl
 have hlt:¬ r<128:=by omega
 have hne:(r == 65533)=false:=beq_eq_false_iff_ne.2 h1
 go_enter L.f152,Body.n152_ntmps ρ
 go_wp2_with (first
  | (go_at_fn (ρ.f 119);refine (Any.utf8_ValidRune { L with } _ _).mono ?_;rintro e w' ⟨rfl,hw⟩;rw [hw,hv])
  | (go_at_fn (ρ.f 137);refine (Any.strings_IndexByte { L with } _ _ _).mono ?_;rintro e w' ⟨rfl,hw⟩;rw [hw]))
 go_step3
 go_wp2
 go_loopg [9] 1 (fun g s9 wx=>s9 = .int .i64 3∧wx=w)
 case atStart=>exact ⟨rfl,rfl⟩
 case round =>
  obtain ⟨rfl,rfl⟩:=hrel
  go_wp2
  go_simp
  try rw [Exit.noGoto_ret]
  go_ret
  exact ⟨rfl,.refl _ _⟩
theorem Zel (L:Lays.n152 P ρ) (r:Int) (w:World) (h0:128≤r) :
  Calls P (ρ.f 152) #[.string stops,.int .i32 r] w fun e w'=>e = .returned (.int .i64 (-1))∧Below w.heap.size w w':=by
 by_cases h1:r=65533
 ·subst h1
  refine (ZbQ L w).mono ?_
  rintro e w' ⟨h,g,rfl⟩
  exact ⟨h,(Below.refl _ _).alloc (Nat.le_refl _) _⟩
 cases hv:Lib.validRune r with
 | false=>exact Zfd L r w h0 h1 hv
 | true =>
  rcases ZcS r h0 with ⟨a,b,he,hb⟩ | ⟨a,b,c,he,hb⟩ | ⟨a,b,c,d,he⟩
  ·exact ZeY L r w h0 h1 hv a b he hb
  ·exact Zbe L r w h0 h1 hv a b c he hb
  ·exact ZcH L r w h0 h1 hv a b c d he
theorem get!_at (s:ByteArray) (k:Nat) (h:k<s.size):s.data.toList[k]? = some (s.get! k):=by
 rw [Lib.data_getElem? s k h]
 congr 1
 exact (get_at s k h).symm
theorem Zec (s : ByteArray) (pos : Nat) (h : pos < s.size) (ha : 128 ≤ (s[pos]'h).toNat) : pos + (Utf8.decode s pos).2 ≤ s.size ∧ ∀ j, pos ≤ j → j < pos + (Utf8.decode s pos).2 → 128 ≤ (s.get! j).toNat := by
  have h0 : 128 ≤ (s.get! (pos + 0)).toNat := by rw [get_at s pos h]; exact ha
  have fin : ∀ n, (∀ k, k < n → pos + k < s.size ∧ 128 ≤ (s.get! (pos + k)).toNat) → 0 < n → pos + n ≤ s.size ∧ ∀ j, pos ≤ j → j < pos + n → 128 ≤ (s.get! j).toNat := fun n hn h1 =>
    ⟨by have := (hn (n - 1) (by omega)).1; omega, fun j hj hj2 => by have := (hn (j - pos) (by omega)).2; rwa [Nat.add_sub_cancel' hj] at this⟩
  have cont : ∀ k, (decide (pos + k < s.size) && (s.get! (pos + k)).toNat / 64 == 2) = true → pos + k < s.size ∧ 128 ≤ (s.get! (pos + k)).toNat := fun k q => by
    rw [Bool.and_eq_true, decide_eq_true_eq, beq_iff_eq] at q; exact ⟨q.1, by omega⟩
  have z : pos + 0 < s.size ∧ 128 ≤ (s.get! (pos + 0)).toNat := ⟨h, h0⟩
  have one : ∀ c : Nat, pos + (c, 1).2 ≤ s.size ∧ ∀ j, pos ≤ j → j < pos + (c, 1).2 → 128 ≤ (s.get! j).toNat := fun _ => fin 1 (fun k hk => by obtain rfl : k = 0 := by omega
                                                                                                                                               exact z) (by omega)
  unfold Utf8.decode
  simp only
  rw [Aa]
  split
  · rename_i q
    rw [Bool.and_eq_true] at q
    split
    · exact fin 2 (fun k hk => by
        rcases (by omega : k = 0 ∨ k = 1) with rfl | rfl
        · exact z
        · exact cont 1 q.2) (by omega)
    · exact one _
  · split
    · rename_i q
      rw [Bool.and_eq_true, Bool.and_eq_true] at q
      split
      · exact fin 3 (fun k hk => by
          rcases (by omega : k = 0 ∨ k = 1 ∨ k = 2) with rfl | rfl | rfl
          · exact z
          · exact cont 1 q.1.2
          · exact cont 2 q.2) (by omega)
      · exact one _
    · split
      · rename_i q
        rw [Bool.and_eq_true, Bool.and_eq_true, Bool.and_eq_true] at q
        split
        · exact fin 4 (fun k hk => by
            rcases (by omega : k = 0 ∨ k = 1 ∨ k = 2 ∨ k = 3) with rfl | rfl | rfl | rfl
            · exact z
            · exact cont 1 q.1.1.2
            · exact cont 2 q.1.2
            · exact cont 3 q.2) (by omega)
        · exact one _
      · exact one _
theorem ZbG (b:UInt8) (h:128≤b.toNat):stops.data.toList.contains b=false:=by
 show ([46,91,63]:List UInt8).contains b=false
 simp
 refine ⟨?_,?_,?_⟩<;>(rintro rfl;exact absurd h (by decide))
set_option maxRecDepth 1000000 in
theorem Zdo (L:Lays.n153 P ρ) (s:ByteArray) (w:World) (h8:s.size≤8) :
  Calls P (ρ.f 153) #[.string s,.string stops] w fun e w'=>e = .returned (.int .i64 (Lib.indexAny s.data.toList stops.data.toList))∧Below w.heap.size w w':=by
 have hemp:stops.toList.isEmpty=false:=by rw [Lib.toList_data];rfl
 have hn1:((stops.size:Int) == 1)=false:=by decide
 have h8z:decide ((8:Int)<(s.size:Int))=false:=Ag (by omega)
 have t3:=L.t3;have a3:=L.a3;have z3:=L.z3;have v3:=L.v3
 have t4:=L.t4;have a4:=L.a4;have z4:=L.z4;have v4:=L.v4
 have t5:=L.t5;have a5:=L.a5;have z5:=L.z5;have v5:=L.v5
 have t9:=L.t9;have a9:=L.a9;have z9:=L.z9;have v9:=L.v9
 have t21:=L.t21;have a21:=L.a21;have z21:=L.z21;have v21:=L.v21
 have e152:∀ args w,(callFunc (ρ.f 152) args).run P w = .ok (.enter (ρ.f 152) args) w:=enters_of L.f152 (by kernel_rfl) rfl
 have e226:∀ args w,(callFunc (ρ.f 226) args).run P w = .ok (.enter (ρ.f 226) args) w:=enters_of L.f226 (by kernel_rfl) rfl
 go_enter L.f153,Body.n153_ntmps ρ
 go_wp2_with (go_at_fn (ρ.f 226);refine (Any.strings_shouldUseASCIISet { L with } _ _).mono ?_;rintro e w' ⟨rfl,hw⟩;rw [hw,h8z])
 go_loopg [9,10] s.size (fun g _ _ wr=>∃ pos:Nat,pos+g=s.size∧wr.heap[w.heap.size]? = some (.stringIter s pos)∧Below w.heap.size w wr∧Lib.NoAny s.data.toList stops.data.toList pos)
 case atStart=>exact ⟨0,by omega,World.iter_heap w s 0,(Below.refl _ _).alloc (Nat.le_refl _) _,Lib.NoAny.zero _ _⟩
 case round =>
  obtain ⟨i,hig,hit,hbw,hno⟩:=hrel
  have HN:Aside (Lib.NoAny s.data.toList stops.data.toList i):=hno
  clear hno
  by_cases hp:i<s.size
  ·have hnx:=fun ty=>Lib.run_next_any_at (P:=P) wr w.heap.size s i ty hit hp
   have hit2:=Lib.iterAt_heap wr w.heap.size s i (i+(Utf8.decode s i).2) hit
   have hbw2:=Lib.below_iterAt hbw (k:=w.heap.size) (Nat.le_refl _) s (i+(Utf8.decode s i).2)
   obtain ⟨W1,hW1⟩:∃ W1,W1=wr.iterAt w.heap.size s (i+(Utf8.decode s i).2):=⟨_,rfl⟩
   rw [←hW1] at hnx hit2 hbw2
   have hlt1:w.heap.size<W1.heap.size:=(Array.getElem?_eq_some_iff.1 hit2).1
   clear hW1
   obtain ⟨x,hx⟩:∃ x:UInt8,s[i]'hp=x:=⟨_,rfl⟩
   have hxl:s.data.toList[i]? = some x:=by rw [←hx];exact Lib.data_getElem? s i hp
   by_cases hxa:x.toNat<128
   ·have hdec:Utf8.decode s i=(x.toNat,1):=by rw [←hx];exact decode_ascii s i hp (by rw [hx];exact hxa)
    rw [hdec] at hnx hit2
    have Hx:Aside (s.data.toList[i]? = some x):=hxl
    clear hxl hx hdec
    have hcon:=Lib.contains_iff_indexByte stops.data.toList x
    have hback:(x.toNat:Int).toNat.toUInt8=x:=by simp
    cases hin:stops.data.toList.contains x
    ·rw [hin] at hcon
     have hlt:¬ ((0:Int)≤Lib.indexByte stops.data.toList x):=of_decide_eq_false hcon.symm
     clear hcon
     go_wp2_with (go_at_fn (ρ.f 152);refine (Any.strings_IndexRune_ascii { L with } _ _ _ (by omega) (by omega)).mono ?_;rintro e w' ⟨rfl,hw⟩;rw [hw,hback])
     go_roundg (s.size-(i+1))
     case measure=>omega
     case rel=>exact ⟨i+1,by omega,hit2,hbw2,HN.out.succ Hx.out hin⟩
    ·rw [hin] at hcon
     have hge:(0:Int)≤Lib.indexByte stops.data.toList x:=of_decide_eq_true hcon.symm
     clear hcon
     go_wp2_with (go_at_fn (ρ.f 152);refine (Any.strings_IndexRune_ascii { L with } _ _ _ (by omega) (by omega)).mono ?_;rintro e w' ⟨rfl,hw⟩;rw [hw,hback])
     go_ret
     exact ⟨by rw [Lib.indexAny_hit HN.out Hx.out hin];rfl,hbw2⟩
   ·have hxa':128≤(s[i]'hp).toNat:=by rw [hx];omega
    obtain ⟨d1,d2⟩:=decode_high s i hp hxa'
    obtain ⟨d3,d4⟩:=Zec s i hp hxa'
    have HD:Aside (Lib.NoAny s.data.toList stops.data.toList (i+(Utf8.decode s i).2)):=fun j b hj hb=>by
     by_cases c:j<i
     ·exact HN.out j b c hb
     ·have q:=d4 j (by omega) hj
      have hjs:j<s.size:=by omega
      rw [get!_at s j hjs] at hb
      cases hb
      exact ZbG _ q
    generalize hdd:Utf8.decode s i=dd at *
    obtain ⟨r,k⟩:=dd
    simp only at d1 d2 d3 HD hnx hit2
    clear d4 hdd hxa' hxa hxl hx
    have hlt:¬ ((0:Int) ≤ -1):=by decide
    go_wp2_with (go_at_fn (ρ.f 152);refine (Zel { L with } _ _ (by omega)).mono ?_;rintro e w2 ⟨rfl,hb2⟩)
    go_roundg (s.size-(i+k))
    case measure=>omega
    case rel=>exact ⟨i+k,by omega,by rw [hb2.block w.heap.size hlt1];exact hit2,hbw2.trans ⟨hb2.os,hb2.tape,hb2.output,by have:=hb2.size;omega,fun j hj=>hb2.block j (by omega)⟩,HD.out⟩
  ·have hnx:=Lib.run_next_end_at (P:=P) wr w.heap.size s i
   have hnx:=fun ty=>hnx ty hit hp
   go_wp2
   go_ret
   exact ⟨by rw [Lib.indexAny_none (by rw [←Lib.size_eq];exact fun j b hj=>HN.out j b (by omega))];rfl,hbw⟩
end Go.Proofs
namespace Go.Proofs.YtmcnjijeocmkgaaGreatDoor
open Go Go.RowKit Go.Ev
abbrev Jz (w0:World):Prop:=∃ m,w0.cell? ⟨1,0,none⟩=some (.int .i64 m)
abbrev JF (w0:World):Prop:=(∃ ev,w0.cell? ⟨5,0,none⟩=some ev∧(ev = .nilIface∨∃ te pe,ev = .iface te pe))∧∃ ev,w0.cell? ⟨6,0,none⟩=some ev∧(ev = .nilIface∨∃ te pe,ev = .iface te pe)
theorem ZdA:∀ (j:Nat) (b:UInt8),stops.data.toList[j]? = some b→b.toNat<128:=fun j b h=>by
 have a:b∈([46,91,63]:List UInt8):=List.mem_of_getElem? h
 simp only [List.mem_cons,List.not_mem_nil,or_false] at a
 rcases a with rfl | rfl | rfl<;>decide
theorem LS {w0 w:World} {p:Addr} {v:Value} (h:w0.cell? p=some v) (hb:Below w0.heap.size w0 w):w.cell? p=some v:=by
 rw [hb.cell (World.block_lt_of_cell? w0 _ h)];exact h
def ZT (s:ByteArray):Int:=Lib.indexAny s.data.toList [46,91,63]
def XV (s p:ByteArray):Bool:=Lib.hasPrefix s.data.toList p.data.toList
def PV (s p:ByteArray):ByteArray:=⟨(Lib.cut s.data.toList p.data.toList).1.toArray⟩
def Zbx (s p:ByteArray):ByteArray:=⟨(Lib.cut s.data.toList p.data.toList).2.1.toArray⟩
def Zhp (s p:ByteArray):Bool:=(Lib.cut s.data.toList p.data.toList).2.2
def Jk (s:ByteArray):Int:=match Lib.atoiAll s.data.toList with
 | .ok v=>v
 | .range=>Lib.atoiSat s.data.toList
 | _=>0
def TN (s:ByteArray):Bool:=match Lib.atoiAll s.data.toList with
 | .ok _=>true
 | _=>false
section
variable (w0:World) (B:Aq) (Rw:Aw) (L:Av)
theorem Wn (s c:ByteArray) (h:s.size≤4294967280∧c=stops) :
  ACalls Tryz.prog w0 235 [.val (.string s),.val (.string c)] ⟨B,Rw,L⟩ fun v s'=>v=Am (ZT s)∧s'=⟨B,Rw,L⟩ :=
 Lx (AL Tryz.func235 rfl (by decide)) rfl fun M w b g a=>by
  obtain ⟨h,rfl⟩:=h
  have:=Np (us:=[.string s,.string stops]) a
  subst this
  by_cases h8:s.size≤8
  ·exact Zdo Tryz.lays153 s w h8
  ·refine (Tryz.strings_IndexAny_long (zero_of_info (show (Tryz.prog.info? 286).map (fun i=>(i.zero,i.size))=some (some (.agg (Array.replicate 256 (.bool false))),256) by kernel_rfl)).1 s stops w (by decide) (by omega) (by omega) (by decide) ZdA).mono fun e j ⟨d,f⟩=>⟨d,?_⟩
   rw [f]
   exact ((Below.refl _ _).alloc (Nat.le_refl _) _).alloc (by simp) _
theorem Vi (s p:ByteArray) :
  ACalls Tryz.prog w0 236 [.val (.string s),.val (.string p)] ⟨B,Rw,L⟩ fun v s'=>v = .val (.bool (XV s p))∧s'=⟨B,Rw,L⟩ :=
 Lx (AL Tryz.func236 rfl (by decide)) rfl fun M w b f a=>by
  have:=Np (us:=[.string s,.string p]) a
  subst this
  exact (Tryz.strings_HasPrefix s p w).mono fun e g ⟨c,d⟩=>⟨c,d▸Below.refl _ _⟩
theorem ZaI (s p:ByteArray):(PV s p).size≤s.size∧(Zbx s p).size≤s.size:=by
 have e:s.data.toList.length=s.size:=by simp
 unfold PV Zbx Lib.cut
 split
 ·refine ⟨?_,?_⟩
  ·show ((s.data.toList.take _).toArray).size≤_
   rw [List.size_toArray,List.length_take];omega
  ·show ((s.data.toList.drop _).toArray).size≤_
   rw [List.size_toArray,List.length_drop];omega
 ·refine ⟨?_,?_⟩
  ·show (s.data.toList.toArray).size≤_
   rw [List.size_toArray];omega
  ·exact Nat.zero_le _
theorem ZeM (hM:Jz w0) (s p:ByteArray) (h:s.size≤4294967280) :
  ACalls Tryz.prog w0 237 [.val (.string s),.val (.string p)] ⟨B,Rw,L⟩ fun v s'=>v = .tup [.val (.string (PV s p)),.val (.string (Zbx s p)),.val (.bool (Zhp s p))]∧s'=⟨B,Rw,L⟩ :=
 SG (rs:=[.string (PV s p),.string (Zbx s p),.bool (Zhp s p)]) (AL Tryz.func237 rfl (by decide)) (by
  obtain ⟨i,g⟩:=ZaI s p
  have k:∀ x:ByteArray,x.size≤s.size→GN (.string x)=true:=fun x o=>Ah (by unfold maxLen;omega)
  intro r b
  simp only [List.mem_cons,List.not_mem_nil,or_false] at b
  rcases b with rfl | rfl | rfl
  ·exact k _ i
  ·exact k _ g
  ·rfl) fun M w c f a=>by
  have:=Np (us:=[.string s,.string p]) a
  subst this
  obtain ⟨m,l⟩:=hM
  exact (Tryz.strings_Cut s p m w (by omega) (LS l f)).mono fun e q ⟨d,n,j⟩=>⟨d,j▸(⟨rfl,rfl,rfl,Nat.le_refl _,fun _ _=>rfl⟩:Below w.heap.size w (w.drewN n))⟩
theorem ZdG (s:ByteArray):A9 (Jk s):=by
 unfold Jk A9
 cases h:Lib.atoiAll s.data.toList with
 | ok v=>have:=Lib.atoiAll_bounds h;simp only;omega
 | range=>have:=Lib.atoiSat_bounds s.data.toList;simp only;omega
 | _=>simp only;omega
theorem Zdn (hE:JF w0) (s:ByteArray) (h:s.size≤4294967280) :
  ACalls Tryz.prog w0 238 [.val (.string s)] ⟨B,Rw,L⟩ fun v s'=>(∃ e,v = .tup [Am (Jk s),.val e]∧GX e=TN s∧Q8 e=true)∧s'=⟨B,Rw,L⟩:=by
 refine ⟨AL Tryz.func238 rfl (by decide),fun M w j d g=>?_⟩
 have:=Np (us:=[.string s]) g
 subst this
 obtain ⟨⟨m,k,o⟩,l,u,q⟩:=hE
 have fin:∀ (e:Value),GX e=TN s→Q8 e=true→GN e=true→∀ c,Below w.heap.size w c→Comes' w0 M w (fun v s'=>(∃ e,v = .tup [Am (Jk s),.val e]∧GX e=TN s∧Q8 e=true)∧s'=⟨B,Rw,L⟩) (.returned (.tuple #[.int .i64 (Jk s),e])) c:=by
  intro e q1 q2 q3 c f
  obtain ⟨x,r⟩:=d.later f w.heap.size 0 (Nat.le_refl _) (.inr rfl)
  refine ⟨_,_,.tup [Am (Jk s),.val e],_,rfl,⟨⟨e,rfl,q1,q2⟩,rfl⟩,r,x,.tup rfl fun i a b=>?_⟩
  have p:i=0∨i=1:=by simp at a;omega
  rcases p with rfl | rfl
  ·exact .flat rfl
  ·exact .flat q3
 cases hc:Lib.atoiAll s.data.toList with
 | ok v =>
  refine (Any.strconv_Atoi_ok Tryz.laysAtoi s (by omega) v hc w).mono ?_
  rintro en c ⟨rfl,n⟩
  have hv:Jk s=v:=by unfold Jk;rw [hc]
  rw [←hv]
  refine fin .nilIface (by unfold TN;rw [hc];rfl) rfl rfl c ?_
  rcases n with rfl | ⟨t,rfl⟩
  ·exact .refl _ _
  ·exact Lib.bytesWorld_below _ _ _
 | range =>
  refine (Any.strconv_Atoi_range Tryz.laysAtoi s (by omega) hc l w (LS u d.below) q).mono ?_
  rintro en c ⟨N,rfl,_,_,f⟩
  have hv:Jk s=Lib.atoiSat s.data.toList:=by unfold Jk;rw [hc]
  rw [←hv]
  exact fin _ (by unfold TN;rw [hc];rfl) rfl rfl c f
 | _ =>
  refine (Any.strconv_Atoi_syntax Tryz.laysAtoi s (by omega) hc m w (LS k d.below) o).mono ?_
  rintro en c ⟨N,rfl,_,_,f⟩
  have hv:Jk s=0:=by unfold Jk;rw [hc]
  rw [←hv]
  exact fin _ (by unfold TN;rw [hc];rfl) rfl rfl c f
end
@[go_sem] theorem ZhN:YW Tryz.prog 248=true:=by kernel_rfl
def LK (g:Int) (b:ByteArray):Option Int :=
 if 0≤g∧g≤(b.size:Int)∧(b.size:Int)≤(b.size:Int) then
  if (b.extract g.toNat b.size).size≤4294967280∧(⟨#[46,91,63]⟩:ByteArray)=stops then
   if decide ((ZT (b.extract g.toNat b.size))<0) then
    some (b.size:Int)
   else
    if A9 (g+(ZT (b.extract g.toNat b.size))) then
     some (g+(ZT (b.extract g.toNat b.size)))
    else none
  else none
 else none
theorem ZD (w0:World) (B:Aq) (Rw:Aw) (L:Av) (a0:Int) (la1:Nat) (a1:ByteArray) (hla1:B[la1]? = some ([.val (.string a1)])) (r:Int) (h:LK a0 a1=some r) :
  ACalls Tryz.prog w0 234 [Am a0,.box la1 0] ⟨B,Rw,L⟩ fun x st=>x=Am r∧st=⟨B,Rw,L⟩:=by
 rw [LK] at h
 refine hd [.tmp 3] Tryz.func234 Tryz.ntmps234 fun M0 W0 g e d b i f hs=>?_
 simp only [AB]
 have c:=(Ak.1 hla1).1
 have hs:=Ae (As hla1) hs
 exact go (tg (a:=([0,1],[0,1,4],[0,1,4,10],([3],()),[0,4],[3],()))) h hs g e d b f (q1 (Wn w0)) trivial
def OU (b:ByteArray):Option (Part × ByteArray × Bool) :=
 (LK 1 b).bind fun g =>
 if XV b ((⟨#[91,42,93]⟩:ByteArray)) then
  if 0≤3∧3≤(b.size:Int)∧(b.size:Int)≤(b.size:Int) then
   some ((Part.mk 3 0 (⟨#[]⟩:ByteArray),b.extract 3 b.size,true))
  else none
 else
  if 0≤0∧0<(b.size:Int) then
   if decide ((((b.get! 0).toNat:Int))=46) then
    if 0≤1∧1≤g∧g≤(b.size:Int) then
     if 0≤g∧g≤(b.size:Int)∧(b.size:Int)≤(b.size:Int) then
      some ((Part.mk 1 0 (b.extract 1 g.toNat),b.extract g.toNat b.size,true))
     else none
    else none
   else
    if 0≤0∧0<(b.size:Int) then
     if decide ((((b.get! 0).toNat:Int))=63) then
      if 0≤1∧1≤g∧g≤(b.size:Int) then
       if 0≤g∧g≤(b.size:Int)∧(b.size:Int)≤(b.size:Int) then
        some ((Part.mk 4 0 (b.extract 1 g.toNat),b.extract g.toNat b.size,true))
       else none
      else none
     else
      if 0≤1∧1≤(b.size:Int)∧(b.size:Int)≤(b.size:Int) then
       if (b.extract 1 b.size).size≤4294967280 then
        if (PV (b.extract 1 b.size) ((⟨#[93]⟩:ByteArray))).size≤4294967280 then
         if 0≤0∧0<(b.size:Int) then
          if ((decide ((((b.get! 0).toNat:Int))=91))&&(Zhp (b.extract 1 b.size) ((⟨#[93]⟩:ByteArray))))&&(TN (PV (b.extract 1 b.size) ((⟨#[93]⟩:ByteArray)))) then
           if A9 (Jk (PV (b.extract 1 b.size) ((⟨#[93]⟩:ByteArray)))) then
            some ((Part.mk 2 (Jk (PV (b.extract 1 b.size) ((⟨#[93]⟩:ByteArray)))) (⟨#[]⟩:ByteArray),Zbx (b.extract 1 b.size) ((⟨#[93]⟩:ByteArray)),Fv ((⟨(Lib.itoa (Jk (PV (b.extract 1 b.size) ((⟨#[93]⟩:ByteArray))))).toArray⟩:ByteArray)) (PV (b.extract 1 b.size) ((⟨#[93]⟩:ByteArray)))))
           else none
          else
           some ((Part.mk 2 (Jk (PV (b.extract 1 b.size) ((⟨#[93]⟩:ByteArray)))) (⟨#[]⟩:ByteArray),Zbx (b.extract 1 b.size) ((⟨#[93]⟩:ByteArray)),false))
         else none
        else none
       else none
      else none
    else none
  else none
theorem ZcP (w0:World) (hE:JF w0) (hM:Jz w0) (hP:Pow10 w0) (B:Aq) (Rw:Aw) (L:Av) (a0:ByteArray) (r:Part × ByteArray × Bool) (h:OU a0=some r) :
  ACalls Tryz.prog w0 156 [.val (.string a0)] ⟨B,Rw,L⟩ fun x st=>x = .tup [.agg (Am r.1.kind::(Am r.1.index::([.val (.string r.1.name)]))),.val (.string r.2.1),.val (.bool r.2.2)]∧st=⟨B,Rw,L⟩:=by
 rw [OU] at h
 refine hd [.cell 2 146,.tmp 3,.tmp 4] Tryz.func156 Tryz.ntmps156 fun M0 W0 U K J e O m hs=>?_
 simp only [AB]
 refine rg [1,2] hs ?_
 refine rg [1,2,5] hs ?_
 obtain ⟨Q,w,h⟩:=bind_some h
 refine rc 2 [1,2,6] hs ?_;intro K3 n
 refine Ax _ (ZD w0 _ _ _ 1 B.length a0 ev _ w) (hv hs) ?_
 refine ne hs n ?_
 clear n
 apply An;intro K5 u
 apply Ar
 refine rc 2 [1,2,6,15] hs ?_;intro K6 q
 refine Ax _ (Vi w0 _ _ _ a0 ((⟨#[91,42,93]⟩:ByteArray))) (hv hs) ?_
 refine ne hs q ?_
 clear q
 refine BL h hs ?_ ?_<;>intro hs h
 ·have d:=hs.1
  apply An;intro K8 p
  obtain ⟨N,h⟩:=Au h
  apply Lp QQ [3] [2,3,4] kr (fun s=>∃ (X:Aq) (rows:Aw) (j:List AV),s=⟨B++([[.val (.string a0)],j]++X),rows,L⟩) 2 (B.length+2)
  ·simp +decide only [go_sem,Nat.reduceAdd]
  ·rintro s ⟨X,rows,j,rfl⟩
   refine ⟨1,?_⟩
   rw [Ao];simp +decide only [go_sem,Nat.reduceAdd,Eg,d]
   (repeat' apply Ae)<;>first | rfl | exact cl
  ·exact gd (tg (a:=(3,[2,3,4]))) hs
  simp +decide only [go_sem,Nat.reduceAdd,d]
  (repeat' apply Ae)<;>first | refine p _ _ ?_ | exact cl
  clear p
  exact rt h hs e m
 have d:=hs.1
 obtain ⟨E,h⟩:=Au h
 refine rg [1,2,6,21] hs ?_
 refine BL h hs ?_ ?_<;>intro hs h
 ·have b:=hs.1
  apply An;intro K13 l
  obtain ⟨z,h⟩:=Au h
  obtain ⟨C,h⟩:=Au h
  apply Lp QQ [7] [2,3,4] kr (fun s=>∃ (X:Aq) (rows:Aw) (j:List AV),s=⟨B++([[.val (.string a0)],j]++X),rows,L⟩) 2 (B.length+2)
  ·simp +decide only [go_sem,Nat.reduceAdd]
  ·rintro s ⟨X,rows,j,rfl⟩
   refine ⟨1,?_⟩
   rw [Ao];simp +decide only [go_sem,Nat.reduceAdd,Eg,d,b]
   (repeat' apply Ae)<;>first | rfl | exact cl
  ·exact gd (tg (a:=(7,[2,3,4]))) hs
  simp +decide only [go_sem,Nat.reduceAdd,d,b]
  (repeat' apply Ae)<;>first | refine l _ _ ?_ | exact cl
  clear l
  exact rt h hs e m
 have b:=hs.1
 obtain ⟨H,h⟩:=Au h
 refine rg [1,2,6,32] hs ?_
 refine BL h hs ?_ ?_<;>intro hs h
 ·have c:=hs.1
  apply An;intro K19 i
  obtain ⟨y,h⟩:=Au h
  obtain ⟨D,h⟩:=Au h
  apply Lp QQ [7] [2,3,4] kr (fun s=>∃ (X:Aq) (rows:Aw) (j:List AV),s=⟨B++([[.val (.string a0)],j]++X),rows,L⟩) 2 (B.length+2)
  ·simp +decide only [go_sem,Nat.reduceAdd]
  ·rintro s ⟨X,rows,j,rfl⟩
   refine ⟨1,?_⟩
   rw [Ao];simp +decide only [go_sem,Nat.reduceAdd,Eg,d,b,c]
   (repeat' apply Ae)<;>first | rfl | exact cl
  ·exact gd (tg (a:=(7,[2,3,4]))) hs
  simp +decide only [go_sem,Nat.reduceAdd,d,b,c]
  (repeat' apply Ae)<;>first | refine i _ _ ?_ | exact cl
  clear i
  exact rt h hs e m
 have c:=hs.1
 refine sk [1,2] hs u ?_
 clear u
 obtain ⟨F,h⟩:=Au h
 obtain ⟨o,h⟩:=Au h
 refine rc 2 [1,2,7,8,9] hs ?_;intro K22 g
 refine Ax _ (ZeM w0 _ _ _ hM (a0.extract 1 a0.size) ((⟨#[93]⟩:ByteArray)) o) (hv hs) ?_
 refine ne hs g ?_
 clear g
 apply An;intro K25 k
 obtain ⟨t,h⟩:=Au h
 apply Ap 2 [1,2,7,8,9,10,11]
 rw [Ao];simp +decide only [go_sem,Nat.reduceAdd,d,b,c,and_false,if_false]
 (repeat' apply Ae)<;>first | (refine DL _ (Zdn w0 _ _ _ hE (PV (a0.extract 1 a0.size) ((⟨#[93]⟩:ByteArray))) t) (by first | rfl | (simp +decide only [go_sem,Nat.reduceAdd,d,b,c,and_false,if_false];done) | (simp +decide only [go_sem,Nat.reduceAdd,Vl.cs,Ty.cs,d,b,c,and_false,if_false];done)) ?_;rintro _ _ ⟨⟨Ev27,rfl,Hn27,Hi27⟩,rfl⟩) | exact cl
 rw [Ao];simp +decide only [go_sem,Nat.reduceAdd,d,b,c,Hn27,Hi27,and_false,if_false]
 (repeat' apply Ae)<;>first | refine k _ _ ?_ | exact cl
 clear k
 apply An;intro K28 f
 obtain ⟨G,h⟩:=Au h
 rcases Bool.eq_false_or_eq_true (((decide ((((a0.get! 0).toNat:Int))=91))&&(Zhp (a0.extract 1 a0.size) ((⟨#[93]⟩:ByteArray))))&&(TN (PV (a0.extract 1 a0.size) ((⟨#[93]⟩:ByteArray))))) with hf30 | hf30
 ·replace h:=Be h hf30
  obtain ⟨v,h⟩:=Au h
  apply Ap 2 [2,3,4]
  rw [Ao];simp +decide only [go_sem,Nat.reduceAdd,d,b,c,Hn27,Hi27,and_false,if_false,hf30]
  (repeat' apply Ae)<;>first | refine Ax _ (Zau w0 _ _ _ hP (Jk (PV (a0.extract 1 a0.size) ((⟨#[93]⟩:ByteArray)))) v) (by first | rfl | (simp +decide only [go_sem,Nat.reduceAdd,d,b,c,Hn27,Hi27,and_false,if_false,hf30];done) | (simp +decide only [go_sem,Nat.reduceAdd,Vl.cs,Ty.cs,d,b,c,Hn27,Hi27,and_false,if_false,hf30];done)) ?_ | exact cl
  rw [Ao];simp +decide only [go_sem,Nat.reduceAdd,d,b,c,Hn27,Hi27,and_false,if_false,hf30]
  (repeat' apply Ae)<;>first | refine f _ _ ?_ | exact cl
  clear f
  apply AM;simp +decide only [go_sem,Nat.reduceAdd,d,b,c,Hn27,Hi27,and_false,if_false,hf30]
  have hgt:=Option.some.inj h;subst hgt
  first | refine Dy e rfl m.pre ev ⟨?_,rfl⟩ | refine FD e rfl m.pre ev ⟨?_,rfl⟩
  first | rfl | (simp +decide only [go_sem,Nat.reduceAdd,d,b,c,Hn27,Hi27,and_false,if_false,hf30];done) | (simp +decide only [go_sem,Nat.reduceAdd,Vl.cs,Ty.cs,d,b,c,Hn27,Hi27,and_false,if_false,hf30];done)
 ·replace h:=Bh h hf30
  apply Ap 2 [2,3,4]
  rw [Ao];simp +decide only [go_sem,Nat.reduceAdd,d,b,c,Hn27,Hi27,and_false,if_false,hf30]
  (repeat' apply Ae)<;>first | refine He ?_ | exact cl
  rw [Ao];simp +decide only [go_sem,Nat.reduceAdd,d,b,c,Hn27,Hi27,and_false,if_false,hf30]
  (repeat' apply Ae)<;>first | refine f _ _ ?_ | exact cl
  clear f
  apply AM;simp +decide only [go_sem,Nat.reduceAdd,d,b,c,Hn27,Hi27,and_false,if_false,hf30]
  have hgt:=Option.some.inj h;subst hgt
  first | refine Dy e rfl m.pre ev ⟨?_,rfl⟩ | refine FD e rfl m.pre ev ⟨?_,rfl⟩
  first | rfl | (simp +decide only [go_sem,Nat.reduceAdd,d,b,c,Hn27,Hi27,and_false,if_false,hf30];done) | (simp +decide only [go_sem,Nat.reduceAdd,Vl.cs,Ty.cs,d,b,c,Hn27,Hi27,and_false,if_false,hf30];done)
def MN (n:Nat)  (b:List Part):Option ((List Part) × Int) :=
 if decide (16<(b.length:Int)) then
  some (([],9))
 else
  some ((b,0))
def II (n:Nat)  : Nat→(List Part)→ByteArray→Option ((List Part) × Int)
 | 0,_,_=>none
 | m+1,b,g =>
  if !(Fv g (⟨#[]⟩:ByteArray)) then
   (OU g).bind fun h =>
   if !h.2.2 then
    some (([],13))
   else
    (FM h.1).bind fun q =>
    if !q then
     some (([],13))
    else
     if (b.length+1)*32≤140737488355328∧b.length+1≤4611686018427387904 then
      (II n m) (b++([h.1])) h.2.1
     else none
  else
   MN n b
def Df (n:Nat) (b:ByteArray):Option ((List Part) × Int) :=
 if Fv b (⟨#[]⟩:ByteArray) then
  some (([],4))
 else
  if decide (200<(b.size:Int)) then
   some (([],5))
  else
   if ((⟨#[46]⟩:ByteArray)).size+b.size≤9223372036854775807 then
    II n n ([]) (((⟨#[46]⟩:ByteArray))++b)
   else none
theorem F7 (w0:World) (hE:JF w0) (hM:Jz w0) (hP:Pow10 w0) (n:Nat) (B:Aq) (Rw:Aw) (L:Av) (a0:ByteArray) (r:(List Part) × Int) (h:Df n a0=some r) :
  ACalls Tryz.prog w0 66 [.val (.string a0)] ⟨B,Rw,L⟩ fun x st=>x = .tup [.list (r.1.map AD) .none,Am r.2]∧st=⟨B,Rw,L⟩:=by
 rw [Df] at h
 refine hd [.tmp 2,.tmp 3] Tryz.func66 Tryz.ntmps66 fun M0 W0 y o l i D j hs=>?_
 simp only [AB]
 refine rg [0] hs ?_
 apply An;intro K2 q
 apply Ar
 refine rg [0,9] hs ?_
 refine BL h hs ?_ ?_<;>intro hs h
 ·refine rg [2,3] hs ?_
  exact rt h hs i j
 refine rg [0,12] hs ?_
 refine BL h hs ?_ ?_<;>intro hs h
 ·refine rg [2,3] hs ?_
  exact rt h hs i j
 refine sk [0] hs q ?_
 clear q
 refine rg [0,4] hs ?_
 refine AA (fun e st=>∃ (f:List Part) (g:Ev.Own),Ck e st B Rw L [(4,true,.list (f.map AD) g)] [] [(3,f.length,g)] (MN n f=some r)) ?_ ?_
 ·intro K12 v
  obtain ⟨t,h⟩:=Au h
  have p:=t
  try simp +decide only [go_sem] at p
  refine rg [4,5] hs ?_
  apply Ar
  refine Az (fun m e st=>∃ (b:List Part) (d:ByteArray) (c:Ev.Own),Ck e st B Rw L [(4,true,.list (b.map AD) c),(5,true,.val (.string d))] [] [(3,b.length,c)] (II n m b d=some r)) n ⟨([]),(((⟨#[46]⟩:ByteArray))++a0),.full,([]),Rw,ef hs,ef hs,Owns.of_eq ((j).full 3 0) Dk,h⟩ ?_
  rintro ml15 e st ⟨b,d,c,Xl15,Rl15,rfl,rfl,j,h⟩ Ul15 Vl15
  cases ml15 with
  | zero=>cases h
  | succ ml15 =>
  rw [II] at h
  have C:=j.unders
  simp only [List.mem_cons,List.not_mem_nil,or_false,forall_eq_or_imp,forall_eq] at C
  refine td y o l i j ?_
  apply An;intro K16 k
  refine rg [4,5,19] hs ?_
  refine BL h hs ?_ ?_<;>intro hs h
  rotate_left
  ·refine sx [4] hs v ?_
   exact ⟨b,c,([]),Rl15,ef hs,ef hs,Owns.of_eq (j) Dk,h⟩
  refine sk [4,5] hs k ?_
  clear k
  apply Ar
  obtain ⟨z,w,h⟩:=bind_some h
  refine rc 2 [4,6,7,8] hs ?_;intro K19 u
  refine Ax _ (ZcP w0 hE hM hP _ _ _ d _ w) (hv hs) ?_
  exact go (tg (a:=(([4,6,7,32],[2,3],()),[4,6,7,32],([2,3],()),[4,6,7],[4,5],()))) h hs y o l i j (q2 (On w0) (ae ZbY XS)) (q2 u (fun e s=>Vl15 ml15 e s (Nat.lt_succ_self _)))
 ·clear h;rintro e st ⟨f,g,Xk11,Rk11,rfl,rfl,j,h⟩
  rw [MN] at h
  exact go (tg (a:=([4,40],([2,3],()),[4],[2,3],()))) h hs y o l i j trivial trivial
theorem TE (c:List UInt8):∀ l:List UInt8,Lib.indexAny l c<(l.length:Int)
 | []=>by show (-1:Int)<0;decide
 | b::l=>by
  have ih:=TE c l
  rw [Lib.indexAny,List.length_cons]
  split
  ·omega
  ·split<;>omega
theorem ZZ (s:ByteArray):s.data.toList.length=s.size:=by simp
theorem Zll (s:ByteArray) (h1:1≤s.size) (h2:s.size≤300):∃ y:Nat,LK 1 s=some (y:Int)∧1≤y∧y≤s.size:=by
 have e:((1:Int).toNat)=1:=rfl
 have d:(s.extract 1 s.size).size=s.size-1:=by rw [ByteArray.size_extract];omega
 have b:=Lib.indexAny_ge [46,91,63] (s.extract 1 s.size).data.toList
 have a:=TE [46,91,63] (s.extract 1 s.size).data.toList
 rw [ZZ,d] at a
 rw [LK,Ai ⟨by decide,by omega,by omega⟩,e,Ai ⟨by rw [d];omega,rfl⟩]
 have b : -1≤ZT (s.extract 1 s.size):=b
 have a:ZT (s.extract 1 s.size)<((s.size-1:Nat):Int):=a
 by_cases c:ZT (s.extract 1 s.size)<0
 ·rw [Ai (Ah c)]
  exact ⟨s.size,rfl,h1,Nat.le_refl _⟩
 ·rw [Aj (by rw [decide_eq_true_eq];exact c),Ai (by unfold A9;omega)]
  exact ⟨(1+ZT (s.extract 1 s.size)).toNat,congrArg some (by omega),by omega,by omega⟩
theorem ZeQ {s:ByteArray} (h:XV s ⟨#[91,42,93]⟩=true):3≤s.size:=by
 have h:[91,42,93].isPrefixOf s.data.toList=true:=h
 have:=(List.isPrefixOf_iff_prefix.1 h).length_le
 rw [ZZ] at this
 exact this
theorem Zih (s:ByteArray) (h1:1≤s.size) (h2:s.size≤300):∃ (p:Part) (r:ByteArray) (b:Bool),OU s=some (p,r,b)∧r.size<s.size∧p.wf:=by
 obtain ⟨y,e,o,n⟩:=Zll s h1 h2
 have g:∀ x:ByteArray,x.size≤300→x.size≤maxLen:=fun x h=>Nat.le_trans h (by decide)
 have c:A9 0:=by decide
 have j:A9 1:=by decide
 have k:A9 2:=by decide
 have i:A9 3:=by decide
 have l:A9 4:=by decide
 have a:(⟨#[]⟩:ByteArray).size≤maxLen:=by decide
 have d:(y:Int).toNat=y:=rfl
 rw [OU,e,Af]
 by_cases c1:XV s ⟨#[91,42,93]⟩=true
 ·have:=ZeQ c1
  rw [Ai c1,Ai ⟨by decide,by omega,by omega⟩]
  exact ⟨_,_,_,rfl,by rw [ByteArray.size_extract];omega,i,c,a⟩
 rw [Aj c1,Ai ⟨by decide,by omega⟩]
 by_cases c2:decide (((s.get! 0).toNat:Int)=46)=true
 ·rw [Ai c2,Ai ⟨by decide,by omega,by omega⟩,Ai ⟨by omega,by omega,by omega⟩,d]
  exact ⟨_,_,_,rfl,by rw [ByteArray.size_extract];omega,j,c,g _ (by simp only;rw [ByteArray.size_extract];omega)⟩
 rw [Aj c2,Ai ⟨by decide,by omega⟩]
 by_cases c3:decide (((s.get! 0).toNat:Int)=63)=true
 ·rw [Ai c3,Ai ⟨by decide,by omega,by omega⟩,Ai ⟨by omega,by omega,by omega⟩,d]
  exact ⟨_,_,_,rfl,by rw [ByteArray.size_extract];omega,l,c,g _ (by simp only;rw [ByteArray.size_extract];omega)⟩
 have t:(s.extract 1 s.size).size=s.size-1:=by rw [ByteArray.size_extract];omega
 obtain ⟨q,m⟩:=ZaI (s.extract 1 s.size) ⟨#[93]⟩
 have f:=ZdG (PV (s.extract 1 s.size) ⟨#[93]⟩)
 rw [Aj c3,Ai ⟨by decide,by omega,by omega⟩,Ab,Ab,Ai ⟨by decide,by omega⟩,Ai f]
 have fin:∀ b:Bool,∃ (p:Part) (r:ByteArray) (b':Bool),some (Part.mk 2 (Jk (PV (s.extract 1 s.size) ⟨#[93]⟩)) ⟨#[]⟩,Zbx (s.extract 1 s.size) ⟨#[93]⟩,b)=some (p,r,b')∧r.size<s.size∧p.wf:=fun b =>
  ⟨_,_,_,rfl,by omega,k,f,a⟩
 split
 ·exact fin _
 ·exact fin _
def Vw (l:List Part):Prop:=l.length≤16∧∀ p∈l,p.wf∧pOk p=true
theorem Xt (n:Nat):∀ (m:Nat) (l:List Part) (s:ByteArray),s.size<m→l.length+s.size≤300→(∀ p∈l,p.wf∧pOk p=true)→∃ r:List Part × Int,II n m l s=some r∧Vw r.1
 | 0,l,s,h,_,_=>absurd h (Nat.not_lt_zero _)
 | m+1,l,s,hm,hs,hp=>by
  rw [II,Zb6]
  by_cases c:s.size=0
  ·rw [Ah c,Aj (by decide),MN]
   by_cases d:16<(l.length:Int)
   ·rw [Ai (Ah d)]
    exact ⟨_,rfl,by simp,by simp⟩
   ·rw [Aj (by rw [decide_eq_true_eq];exact d)]
    exact ⟨_,rfl,by simp only;omega,hp⟩
  ·obtain ⟨p,r,b,e,f,a⟩:=Zih s (by omega) (by omega)
   rw [Ag c,Ai (by rfl),e,Af]
   cases b with
   | false=>exact ⟨_,rfl,by simp,by simp⟩
   | true =>
    rw [Aj (show ¬ (!true)=true by decide),XJ p a,Af]
    cases hv:pOk p with
    | false=>exact ⟨_,rfl,by simp,by simp⟩
    | true =>
     rw [Aj (show ¬ (!true)=true by decide),Ab]
     exact Xt n m (l++[p]) r (by omega) (by rw [List.length_append,List.length_singleton];omega) (fun q hq=>by
      rcases List.mem_append.1 hq with hq | hq
      ·exact hp q hq
      ·rw [List.mem_singleton.1 hq];exact ⟨a,hv⟩)
theorem Zft (n:Nat) (hn:302≤n) (s:ByteArray):∃ r:List Part × Int,Df n s=some r∧Vw r.1:=by
 rw [Df]
 by_cases c:Fv s ⟨#[]⟩=true
 ·rw [Ai c];exact ⟨_,rfl,by simp,by simp⟩
 rw [Aj c]
 by_cases d:200<(s.size:Int)
 ·rw [Ai (Ah d)];exact ⟨_,rfl,by simp,by simp⟩
 have z:(⟨#[46]⟩:ByteArray).size=1:=rfl
 rw [Aj (by rw [decide_eq_true_eq];exact d),Ai (by rw [z];omega)]
 exact Xt n n [] _ (by rw [ByteArray.size_append,z];omega) (by rw [ByteArray.size_append,z,List.length_nil];omega) (by simp)
def prs (n:Nat) (s:ByteArray):List Part × Int:=(Df n s).getD ([],4)
theorem UA (n:Nat) (hn:302≤n) (s:ByteArray):Df n s=some (prs n s)∧Vw (prs n s).1:=by
 obtain ⟨r,e,h⟩:=Zft n hn s
 rw [prs,e]
 exact ⟨rfl,h⟩
def Eo (b:Part):Bool :=
 !(decide (b.kind=1))
theorem Rm (w0:World) (B:Aq) (Rw:Aw) (L:Av) (a0:Part) (r:Bool) (h:Eo a0=r) :
  ACalls Tryz.prog w0 153 [.agg (Am a0.kind::(Am a0.index::([.val (.string a0.name)])))] ⟨B,Rw,L⟩ fun x st=>x = .val (.bool r)∧st=⟨B,Rw,L⟩:=by
 rw [Eo] at h
 refine hd [.tmp 2] Tryz.func153 Tryz.ntmps153 fun M0 W0 e d c a f b hs=>?_
 simp only [AB]
 refine rg [1] hs ?_
 refine rg [2] hs ?_
 exact rT h hs a b
theorem Qd (w0:World) (B:Aq) (Rw:Aw) (L:Av) (a0:Part) :
  ACalls Tryz.prog w0 153 [.agg (Am a0.kind::(Am a0.index::([.val (.string a0.name)])))] ⟨B,Rw,L⟩ fun x st=>x = .val (.bool (Eo a0))∧st=⟨B,Rw,L⟩:=Rm w0 B Rw L a0 _ rfl
def Hq (n:Nat)  : Option Bool :=
 some (true)
def CQ (n:Nat) (q:List Part) (y:List Part):Nat→Int→Option Bool
 | 0,_=>none
 | m+1,b =>
  if decide (b<(q.length:Int)) then
   (BJ q b).bind fun h =>
   (BJ y b).bind fun g =>
   if !(decide (h.kind=g.kind)&&(decide (h.index=g.index)&&(Fv h.name g.name))) then
    some (false)
   else
    if A9 (b+1) then
     (CQ n q y m) (b+1)
    else none
  else
   Hq n 
def EQ (n:Nat) (g:List Part) (b:List Part):Option Bool :=
 if !(decide ((g.length:Int)=(b.length:Int))) then
  some (false)
 else
  CQ n g b n 0
theorem Ny (w0:World) (n:Nat) (B:Aq) (Rw:Aw) (L:Av) (a0:List Part) (a1:List Part) (r:Bool) (h:EQ n a0 a1=some r) :
  ACalls Tryz.prog w0 175 [.list (a0.map AD) .none,.list (a1.map AD) .none] ⟨B,Rw,L⟩ fun x st=>x = .val (.bool r)∧st=⟨B,Rw,L⟩:=by
 rw [EQ] at h
 refine hd [.tmp 4] Tryz.func175 Tryz.ntmps175 fun M0 W0 k i g c l d hs=>?_
 simp only [AB]
 refine rg [0,1] hs ?_
 apply An;intro K2 f
 refine rg [0,1,10] hs ?_
 refine BL h hs ?_ ?_<;>intro hs h
 ·refine rg [4] hs ?_
  exact rt h hs c d
 refine sk [0,1] hs f ?_
 clear f
 refine AA (fun e st=>Ck e st B Rw L [] [] [] (Hq n  = some r)) ?_ ?_
 ·intro K8 j
  refine rg [0,1,12,13] hs ?_
  apply Ar
  refine Az (fun m e st=>∃ (b:Int),Ck e st B Rw L [(0,true,.list (a0.map AD) .none),(1,true,.list (a1.map AD) .none),(12,true,Am (a0.length:Int)),(13,true,Am b)] [] [] (CQ n a0 a1 m b=some r)) n ⟨0,([]),Rw,ef hs,ef hs,d,h⟩ ?_
  rintro ml10 e st ⟨b,Xl10,Rl10,rfl,rfl,d,h⟩ Ul10 Vl10
  cases ml10 with
  | zero=>cases h
  | succ ml10 =>
  rw [CQ] at h
  exact go (tg (a:=([0,1,12,13,14],([0,1,12,13],[0,1,5,12,13],[9,0,1,12,13,24],([4],()),[0,1,12,13],[0,1,12,13],()),[],()))) h hs k i g c d trivial (q2 j (fun e s=>Vl10 ml10 e s (Nat.lt_succ_self _)))
 ·clear h;rintro e st ⟨Xk7,Rk7,rfl,rfl,d,h⟩
  rw [Hq] at h
  refine td k i g c d ?_
  refine rg [4] hs ?_
  exact rt h hs c d
def Em (n:Nat) (g:List Part) (b:List Part):Option Bool :=
 if decide ((b.length:Int)≤(g.length:Int)) then
  if 0≤0∧0≤(b.length:Int)∧(b.length:Int)≤(g.length:Int) then
   (EQ n (g.take b.length) b).bind fun h =>
   some (h)
  else none
 else
  some (false)
theorem Rj (w0:World) (n:Nat) (B:Aq) (Rw:Aw) (L:Av) (a0:List Part) (a1:List Part) (r:Bool) (h:Em n a0 a1=some r) :
  ACalls Tryz.prog w0 155 [.list (a0.map AD) .none,.list (a1.map AD) .none] ⟨B,Rw,L⟩ fun x st=>x = .val (.bool r)∧st=⟨B,Rw,L⟩:=by
 rw [Em] at h
 refine hd [.tmp 4] Tryz.func155 Tryz.ntmps155 fun M0 W0 f d c b g e hs=>?_
 simp only [AB]
 exact go (tg (a:=([0,1],([4],()),[4],()))) h hs f d c b e (q1 (Ny w0 n)) trivial
def FX (n:Nat) (g:List Part) (b:List Part):Option Bool :=
 (Em n b g).bind fun h =>
 if h then
  some (true)
 else
  (Em n g b).bind fun q =>
  some (q)
theorem Q6 (w0:World) (n:Nat) (B:Aq) (Rw:Aw) (L:Av) (a0:List Part) (la1:Nat) (a1:List Part) (hla1:B[la1]? = some ([.list (a1.map AD) .none])) (r:Bool) (h:FX n a0 a1=some r) :
  ACalls Tryz.prog w0 154 [.list (a0.map AD) .none,.box la1 0] ⟨B,Rw,L⟩ fun x st=>x = .val (.bool r)∧st=⟨B,Rw,L⟩:=by
 rw [FX] at h
 refine hd [.tmp 3] Tryz.func154 Tryz.ntmps154 fun M0 W0 g e d b i f hs=>?_
 simp only [AB]
 have c:=(Ak.1 hla1).1
 have hs:=Ae (As hla1) hs
 exact go (tg (a:=([0,1],([3],()),[3],()))) h hs g e d b f (q1 (Rj w0 n)) trivial
def G6 (n:Nat)  : Option Int :=
 some ((-1))
def BO (n:Nat) (h:List Part) (y:Part→Option Bool):Nat→Int→Option Int
 | 0,_=>none
 | m+1,b =>
  if decide (b<(h.length:Int)) then
   (BJ h b).bind fun q =>
   (y q).bind fun g =>
   if g then
    some (b)
   else
    if A9 (b+1) then
     (BO n h y m) (b+1)
    else none
  else
   G6 n 
def FA (n:Nat) (g:List Part) (b:Part→Option Bool):Option Int :=
 BO n g b n 0
theorem OZ (w0:World) (n:Nat) (B:Aq) (Rw:Aw) (L:Av) (a0:List Part) (fa1:FuncId) (ca1:List AV) (a1:Part→Option Bool) (ha1:∀ (x0:Part) r,a1 x0=some r→∀ B' rows,B <+: B'→Rw <+: rows→ACalls Tryz.prog w0 fa1 ([.agg (Am x0.kind::(Am x0.index::([.val (.string x0.name)])))]++ca1) ⟨B',rows,L⟩ fun v s=>v = .val (.bool r)∧s=⟨B',rows,L⟩) (r:Int) (h:FA n a0 a1=some r) :
  ACalls Tryz.prog w0 231 [.list (a0.map AD) .none,.clo fa1 ca1] ⟨B,Rw,L⟩ fun x st=>x=Am r∧st=⟨B,Rw,L⟩:=by
 rw [FA] at h
 refine hd [.tmp 4] Tryz.func231 Tryz.ntmps231 fun M0 W0 j i g c l f hs=>?_
 simp only [AB]
 have b:=Cf (l (.clo fa1 ca1) (by simp))
 refine rg [0,1] hs ?_
 refine AA (fun e st=>Ck e st B Rw L [] [] [] (G6 n  = some r)) ?_ ?_
 ·intro K4 k
  refine rg [0,1,7,8] hs ?_
  apply Ar
  refine Az (fun m e st=>∃ (d:Int),Ck e st B Rw L [(0,true,.list (a0.map AD) .none),(1,true,.clo fa1 ca1),(7,true,Am (a0.length:Int)),(8,true,Am d)] [] [] (BO n a0 a1 m d=some r)) n ⟨0,([]),Rw,ef hs,ef hs,f,h⟩ ?_
  rintro ml6 e st ⟨d,Xl6,Rl6,rfl,rfl,f,h⟩ Ul6 Vl6
  cases ml6 with
  | zero=>cases h
  | succ ml6 =>
  rw [BO] at h
  refine A8 j i g rfl c f (P0 b f) (P0 b f) ?_
  exact go (tg (a:=([0,1,7,8,9],([0,1,7,8],[0,1,5,7,8],[0,1,5,7,8,16],([4],()),[0,1,7,8],[0,1,7,8],()),[],()))) h hs j i g c f (q1 ha1) (q2 k (fun e s=>Vl6 ml6 e s (Nat.lt_succ_self _)))
 ·clear h;rintro e st ⟨Xk3,Rk3,rfl,rfl,f,h⟩
  rw [G6] at h
  refine A8 j i g rfl c f (P0 b f) (P0 b f) ?_
  refine rg [4] hs ?_
  exact rt h hs c f
end Go.Proofs.YtmcnjijeocmkgaaGreatDoor
