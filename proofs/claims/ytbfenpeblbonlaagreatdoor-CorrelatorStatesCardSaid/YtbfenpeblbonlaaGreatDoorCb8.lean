/-
  Part 8 of the proof: rules and walks that the claim's last text uses.
-/
import Derived.Test.YtbfenpeblbonlaaGreatDoorCb1
import Derived.Test.YtbfenpeblbonlaaGreatDoorCb2
import Derived.Test.YtbfenpeblbonlaaGreatDoorCb3
import Derived.Test.YtbfenpeblbonlaaGreatDoorCb4
import Derived.Test.YtbfenpeblbonlaaGreatDoorCb5
import Derived.Test.YtbfenpeblbonlaaGreatDoorCb6
import Derived.Test.YtbfenpeblbonlaaGreatDoorCb7
set_option linter.unusedSimpArgs false
set_option linter.unusedVariables false
set_option maxRecDepth 100000
set_option maxHeartbeats 4000000
namespace Go.Proofs.YtbfenpeblbonlaaGreatDoor
open Go Go.RowKit Go.Ev
def ZaM:ByteArray:=⟨#[98,111,100,121]⟩
def ZD:ByteArray:=⟨#[114,101,112,108,121]⟩
def ZaI (k v:Int):Vl:=rV [(nK,iV k),(nN,iV v)]
def Zee (k v:Int):Vl:=rV [(ZaM,ZaI k v)]
def XZ (k v w:Int):Vl:=rV [(ZaM,ZaI k v),(ZD,rV [(nV,iV w)])]
def OU (a:ByteArray) (q:Int):Ty:=Ty.mk 9 0 0 0 [] [] [(1,a,1,Ty.mk 2 0 q 0 [] [] [],[])]
def Zbf (q:Int):Ty:=Ty.mk 9 0 0 0 [] [] [(1,nK,1,Ty.mk 2 0 9 0 [] [] [],[]),(2,nV,1,Ty.mk 2 0 q 0 [] [] [],[])]
def Xy:List (ByteArray × Ex):=[(Yz,Hf ⟨#[98,111,100,121,46,107]⟩)]
def Zch:List (ByteArray × Ex):=[(nK,Hf ⟨#[98,111,100,121,46,107]⟩),(nV,Ex.mk 12 0 eS [] [Hf ⟨#[98,111,100,121,46,110]⟩,Hf ⟨#[114,101,112,108,121,46,118]⟩])]
def eqB (a b:ByteArray):Bool:=decide (a.data.toList=b.data.toList)
theorem ZcZ {a b:ByteArray} (h:eqB a b=true):a=b:=ZL (of_decide_eq_true h)
def ZfT (g:Vl->Vl->Bool):List (ByteArray × Vl)->List (ByteArray × Vl)->Bool
 | [],[]=>true
 | (a,x)::r,(b,y)::q=>eqB a b&&(g x y&&ZfT g r q)
 | _,_=>false
theorem ZaE {g:Vl->Vl->Bool} (hg:∀ x y,g x y=true->x=y):∀ r q,ZfT g r q=true->r=q
 | [],[],_=>rfl
 | (a,x)::r,(b,y)::q,h=>by
  simp only [ZfT,Bool.and_eq_true] at h
  rw [ZcZ h.1,hg _ _ h.2.1,ZaE hg r q h.2.2]
 | [],_::_,h=>(nomatch h)
 | _::_,[],h=>(nomatch h)
def nilV:List Vl->Bool
 | []=>true
 | _::_=>false
def eqV:Nat->Vl->Vl->Bool
 | 0,_,_=>false
 | f+1,.mk k i s t l fs,.mk k' i' s' t' l' fs'=>decide (k=k')&&(decide (i=i')&&(decide (s=s')&&(eqB t t'&&((nilV l&&nilV l')&&ZfT (eqV f) fs fs'))))
theorem Zae {l:List Vl} (h:nilV l=true):l=[]:=by
 cases l with
 | nil=>rfl
 | cons=>cases h
theorem Zcq:∀ (f:Nat) (a b:Vl),eqV f a b=true->a=b
 | 0,_,_,h=>(nomatch h)
 | f+1,.mk k i s t l fs,.mk k' i' s' t' l' fs',h=>by
  simp only [eqV,Bool.and_eq_true,decide_eq_true_eq] at h
  obtain ⟨rfl,rfl,rfl,d,⟨g,e⟩,c⟩:=h
  rw [ZcZ d,Zae g,Zae e,ZaE (Zcq f) _ _ c]
def eqA (r:Option (Vl × Int)) (v:Vl) (e:Int):Bool :=
 match r with
 | some (x,d)=>eqV 5 x v&&decide (d=e)
 | none=>false
theorem Zec {r:Option (Vl × Int)} {v:Vl} {e:Int} (h:eqA r v e=true):r=some (v,e):=by
 cases r with
 | none=>cases h
 | some p =>
  obtain ⟨x,d⟩:=p
  simp only [eqA,Bool.and_eq_true,decide_eq_true_eq] at h
  rw [Zcq _ _ _ h.1,h.2]
def okQ (m k v q:Nat):Bool:=eqA (BO (m+60) Xy (Zee k v) (OU Yz q)) (if Nat.ble k q then rV [(Yz,iV k)] else zV) (if Nat.ble k q then 0 else 18)
theorem ZnI (m:Nat):((List.range 6).all fun k=>(List.range 4).all fun v=>(List.range 3).all fun q=>okQ m k v (q+3))=true:=by kernel_rfl
def okR (m k v w q:Nat):Bool:=eqA (BO (m+60) Zch (XZ k v w) (Zbf q)) (if Nat.ble (v+w) q then rV [(nK,iV k),(nV,iV ((v:Int)+(w:Int)))] else zV) (if Nat.ble (v+w) q then 0 else 18)
theorem Zle (m:Nat):((List.range 4).all fun v=>(List.range 10).all fun w=>(List.range 9).all fun q=>okR m 0 v w (q+4))=true:=by kernel_rfl
theorem ZlY (m:Nat):((List.range 4).all fun v=>(List.range 10).all fun w=>(List.range 9).all fun q=>okR m 1 v w (q+4))=true:=by kernel_rfl
theorem Zlg (m:Nat):((List.range 4).all fun v=>(List.range 10).all fun w=>(List.range 9).all fun q=>okR m 2 v w (q+4))=true:=by kernel_rfl
theorem ZkW (m:Nat):((List.range 4).all fun v=>(List.range 10).all fun w=>(List.range 9).all fun q=>okR m 3 v w (q+4))=true:=by kernel_rfl
theorem Zl3 (m:Nat):((List.range 4).all fun v=>(List.range 10).all fun w=>(List.range 9).all fun q=>okR m 4 v w (q+4))=true:=by kernel_rfl
theorem Zk8 (m:Nat):((List.range 4).all fun v=>(List.range 10).all fun w=>(List.range 9).all fun q=>okR m 5 v w (q+4))=true:=by kernel_rfl
def okF (m w:Nat):Bool :=
 match Gz (m+60) (OU nV 9) (rV [(nV,iV w)]) with
 | some b=>b == Nat.ble w 9
 | none=>false
theorem ZnB (m:Nat):((List.range 12).all fun w=>okF m w)=true:=by kernel_rfl
theorem E7 {f:Nat->Bool} {n:Nat} (h:(List.range n).all f=true) {i:Nat} (hi:i<n):f i=true:=List.all_eq_true.1 h i (List.mem_range.2 hi)
theorem Zc2 (n:Nat) (hn:100<=n) (k v q:Nat) (hk:k<6) (hv:v<4) (hq:3<=q/\q<=5):BO n Xy (Zee k v) (OU Yz q)=some (if k<=q then (rV [(Yz,iV k)],0) else (zV,18)):=by
 obtain ⟨m,rfl⟩:∃ m,n=m+60:=⟨n-60,by omega⟩
 obtain ⟨r,rfl⟩:∃ r,q=r+3:=⟨q-3,by omega⟩
 have h:=Zec (E7 (E7 (E7 (ZnI m) hk) hv) (show r<3 by omega))
 rw [h]
 by_cases c:k<=r+3
 ·rw [Ah c,Ah (Nat.ble_eq_true_of_le c),Ah (Nat.ble_eq_true_of_le c)]
 ·have a:¬ Nat.ble k (r+3)=true:=fun e=>c (Nat.le_of_ble_eq_true e)
  rw [Ai c,Ai a,Ai a]
theorem Zdq (n:Nat) (hn:100<=n) (k v w q:Nat) (hk:k<6) (hv:v<4) (hw:w<10) (hq:4<=q/\q<=12):BO n Zch (XZ k v w) (Zbf q)=some (if v+w<=q then (rV [(nK,iV k),(nV,iV ((v:Int)+(w:Int)))],0) else (zV,18)):=by
 obtain ⟨m,rfl⟩:∃ m,n=m+60:=⟨n-60,by omega⟩
 obtain ⟨r,rfl⟩:∃ r,q=r+4:=⟨q-4,by omega⟩
 have h:okR m k v w (r+4)=true:=by
  have a:r<9:=by omega
  rcases (show k=0\/k=1\/k=2\/k=3\/k=4\/k=5 by omega) with rfl | rfl | rfl | rfl | rfl | rfl
  ·exact E7 (E7 (E7 (Zle m) hv) hw) a
  ·exact E7 (E7 (E7 (ZlY m) hv) hw) a
  ·exact E7 (E7 (E7 (Zlg m) hv) hw) a
  ·exact E7 (E7 (E7 (ZkW m) hv) hw) a
  ·exact E7 (E7 (E7 (Zl3 m) hv) hw) a
  ·exact E7 (E7 (E7 (Zk8 m) hv) hw) a
 have h:=Zec h
 rw [h]
 by_cases c:v+w<=r+4
 ·rw [Ah c,Ah (Nat.ble_eq_true_of_le c),Ah (Nat.ble_eq_true_of_le c)]
 ·have b:¬ Nat.ble (v+w) (r+4)=true:=fun e=>c (Nat.le_of_ble_eq_true e)
  rw [Ai c,Ai b,Ai b]
theorem Zij (n:Nat) (hn:100<=n) (w:Nat) (hw:w<12):Gz n (OU nV 9) (rV [(nV,iV w)])=some (decide (w<=9)):=by
 obtain ⟨m,rfl⟩:∃ m,n=m+60:=⟨n-60,by omega⟩
 have h:=E7 (ZnB m) hw
 unfold okF at h
 split at h
 ·rename_i b hb
  rw [hb]
  congr 1
  have h:b=Nat.ble w 9:=by simpa using h
  rw [h]
  by_cases c:w<=9
  ·rw [Ag c];exact Nat.ble_eq_true_of_le c
  ·rw [Af c];exact Bool.eq_false_iff.2 fun e=>c (Nat.le_of_ble_eq_true e)
 ·cases h
theorem Zay (n:Nat) (hn:100<=n) (k v:Int):FQ n (ZaI k v)=some (Zee k v):=by
 obtain ⟨m,rfl⟩:∃ m,n=m+60:=⟨n-60,by omega⟩
 kernel_rfl
theorem ZaF (n:Nat) (hn:100<=n) (k v w:Int):FU n [(ZaM,ZaI k v),(ZD,rV [(nV,iV w)])]=some (XZ k v w):=by
 obtain ⟨m,rfl⟩:∃ m,n=m+60:=⟨n-60,by omega⟩
 kernel_rfl
end Go.Proofs.YtbfenpeblbonlaaGreatDoor
