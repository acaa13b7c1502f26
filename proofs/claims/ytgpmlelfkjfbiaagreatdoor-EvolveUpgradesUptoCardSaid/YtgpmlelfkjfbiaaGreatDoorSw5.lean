/-
  Part 5 of the proof: rules and walks that the claim's last text uses.
-/
import Derived.Shelf.Spec.SlicesInsertGrow
import Derived.Test.YtgpmlelfkjfbiaaGreatDoorSw4
set_option linter.unusedSimpArgs false
set_option linter.unusedVariables false
set_option maxRecDepth 100000
set_option maxHeartbeats 4000000
namespace Go.Proofs.YtgpmlelfkjfbiaaGreatDoor
open Go Go.RowKit Go.Ev
def ZkH (n:Nat) (again_l10:Int→Option Int) (x3_l10:Int):Option Int :=
 if I64 (x3_l10+1) then
  again_l10 (x3_l10+1)
 else none
def Zqd (n:Nat)  : Option Int :=
 some (0)
def Zh9 (n:Nat) (again_l10:Int→Option Int) (a0:Ty) (x3_l10:Int) (x18:Int × ByteArray × Int × Ty × List Vl):Option Int :=
 if (!(decide (1≤x18.2.2.1)&&decide (x18.2.2.1≤3)))||((decide (a0.kind=10))&&(!(decide (x18.2.2.1=1)))) then
  some (11)
 else
  if (decide (x18.2.2.1=3))&&(decide (((x18.2.2.2.2.length:Int))=0)) then
   some (4)
  else
   if (decide (1<((x18.2.2.2.2.length:Int))))||((!(decide (x18.2.2.1=3)))&&(decide (0<((x18.2.2.2.2.length:Int))))) then
    some (3)
   else
    ZkH n again_l10 x3_l10 
def Zfc (n:Nat) (again_l10:Int→Option Int) (a0:Ty) (x3_l10:Int) (x18:Int × ByteArray × Int × Ty × List Vl):Nat→Int→Option Int
 | 0,_=>none
 | m+1,x5_l32 =>
  if decide (x5_l32<x3_l10) then
   (idx a0.fields x5_l32).bind fun x38 =>
   if sEq x38.2.1 x18.2.1 then
    some (7)
   else
    if decide (x38.1=x18.1) then
     some (7)
    else
     if I64 (x5_l32+1) then
      (Zfc n again_l10 a0 x3_l10 x18 m) (x5_l32+1)
     else none
  else
   Zh9 n again_l10 a0 x3_l10 x18 
def Zeh (n:Nat) (a0:Ty):Nat→Int→Option Int
 | 0,_=>none
 | m+1,x3_l10 =>
  if decide (x3_l10<((a0.fields.length:Int))) then
   (idx a0.fields x3_l10).bind fun x18 =>
   if x18.2.1.size≤maxLen then
    if !(Zei x18.2.1) then
     some (12)
    else
     if !(decide (1≤x18.1)&&decide (x18.1≤9999)) then
      some (2)
     else
      Zfc n (Zeh n a0 m) a0 x3_l10 x18 n 0
   else none
  else
   Zqd n 
def Zko (n:Nat) (a0:Ty):Option Int :=
 if decide (64<((a0.fields.length:Int))) then
  some (9)
 else
  Zeh n a0 n 0
def Zih (a0:Int) (x8_k12:Bool):(Int × Int) :=
 if x8_k12 then
  (0,1024)
 else
  if decide (a0=6) then
   ((-719162),2932896)
  else
   if decide (a0=7) then
    ((-62135596800000),253402300799999)
   else
    (0,256)
def Zjg (a0:Int) (x5_k5:Bool):(Int × Int) :=
 if x5_k5 then
  ((-999999999999999),999999999999999)
 else
  if decide (a0=4) then
   Zih a0 true
  else
   Zih a0 (decide (a0=5))
def Zat (a0:Int):(Int × Int) :=
 if decide (a0=2) then
  Zjg a0 true
 else
  Zjg a0 (decide (a0=3))
def ZaX (a0:Ty):Bool :=
 (((((!(decide (2≤a0.kind)&&decide (a0.kind≤8)))&&((!(decide (a0.min=0)))||(!(decide (a0.max=0)))))||((!(decide (a0.kind=3)))&&(!(decide (a0.scale=0)))))||((!(decide (a0.kind=4)))&&(decide (0<((a0.words.length:Int))))))||((!(decide (a0.kind=8)))&&(decide (0<((a0.elem.length:Int))))))||(((!(decide (a0.kind=9)))&&(!(decide (a0.kind=10))))&&(decide (0<((a0.fields.length:Int)))))
def ZlW (n:Nat)  : Option Int :=
 some (0)
def Zfa (n:Nat) (a0:Ty):Nat→Int→Option Int
 | 0,_=>none
 | m+1,x3_l14 =>
  if decide (x3_l14<((a0.words.length:Int))) then
   (idx a0.words x3_l14).bind fun x21 =>
   (ZhS n (Vl.mk 4 0 0 x21 ([]) ([]))).bind fun y22 =>
   if !(decide (y22=0)) then
    some (y22)
   else
    if decide (0<x3_l14) then
     if I64 (x3_l14-1) then
      (idx a0.words (x3_l14-1)).bind fun x30 =>
      if sEq x21 x30 then
       some (7)
      else
       if I64 (x3_l14-1) then
        if sLt x21 x30 then
         some (24)
        else
         if I64 (x3_l14+1) then
          (Zfa n a0 m) (x3_l14+1)
         else none
       else none
     else none
    else
     if I64 (x3_l14+1) then
      (Zfa n a0 m) (x3_l14+1)
     else none
  else
   ZlW n 
def Zlx (n:Nat) (a0:Ty):Option Int :=
 if (!(decide (a0.min=0)))||(!(decide (a0.max=0))) then
  some (3)
 else
  if decide (64<((a0.words.length:Int))) then
   some (9)
  else
   Zfa n a0 n 0
def ZpO (n:Nat) (a0:Ty):Option Int :=
 if !(decide (1≤a0.kind)&&decide (a0.kind≤10)) then
  some (11)
 else
  if ZaX a0 then
   some (3)
  else
   if (decide (a0.kind=4))&&(decide (0<((a0.words.length:Int)))) then
    (Zlx n a0).bind fun y14 =>
    some (y14)
   else
    if ((decide (2≤a0.kind)&&decide (a0.kind≤8))&&(!(Zbq a0 ((Zat a0.kind).1) ((Zat a0.kind).2))))||(!(decide (0≤a0.scale)&&decide (a0.scale≤12))) then
     some (2)
    else
     if ((decide (a0.kind=8))&&(decide (((a0.elem.length:Int))=0)))||((decide (a0.kind=10))&&(decide (((a0.fields.length:Int))=0))) then
      some (4)
     else
      if decide (1<((a0.elem.length:Int))) then
       some (3)
      else
       (Zko n a0).bind fun y29 =>
       some (y29)
def Zqm (rec:Ty→Int→Int→Option (Int × Int)) (n:Nat)  (pla2_k26:Int):Option (Int × Int) :=
 some ((0,pla2_k26))
def Zb6 (rec:Ty→Int→Int→Option (Int × Int)) (n:Nat) (a0:Ty) (a1:Int):Nat→Int→Int→Option (Int × Int)
 | 0,_,_=>none
 | m+1,x8_l29,pla2_l29 =>
  if decide (x8_l29<((a0.fields.length:Int))) then
   (idx a0.fields x8_l29).bind fun x35 =>
   if I64 (a1+1) then
    (rec x35.2.2.2.1 (a1+1) pla2_l29).bind fun y39 =>
    if !(decide (y39.1=0)) then
     some ((y39.1,y39.2))
    else
     if decide (0<((x35.2.2.2.2.length:Int))) then
      (idx x35.2.2.2.2 0).bind fun x45 =>
      (Zge n x35.2.2.2.1 x45).bind fun y46 =>
      if !y46 then
       some ((18,y39.2))
      else
       if I64 (x8_l29+1) then
        (Zb6 rec n a0 a1 m) (x8_l29+1) y39.2
       else none
     else
      if I64 (x8_l29+1) then
       (Zb6 rec n a0 a1 m) (x8_l29+1) y39.2
      else none
   else none
  else
   Zqm rec n pla2_l29
def Zlz (rec:Ty→Int→Int→Option (Int × Int)) (n:Nat) (a0:Ty) (a1:Int) (a2:Int):Option (Int × Int) :=
 if decide (a2=0) then
  some ((9,a2))
 else
  if I64 (a2-1) then
   if decide (8<a1) then
    some ((23,a2-1))
   else
    (ZpO n a0).bind fun y14 =>
    if !(decide (y14=0)) then
     some ((y14,a2-1))
    else
     if decide (a0.kind=8) then
      (idx a0.elem 0).bind fun x22 =>
      if I64 (a1+1) then
       (rec x22 (a1+1) (a2-1)).bind fun y24 =>
       some ((y24.1,y24.2))
      else none
     else
      Zb6 rec n a0 a1 n 0 (a2-1)
  else none
def Ze1:Nat→Ty→Int→Int→Option (Int × Int)
 | 0,_,_,_=>none
 | n+1,a0,a1,a2=>Zlz (Ze1 n) n a0 a1 a2
def ZjT (n:Nat) (a0:Ty):Option Int :=
 (Ze1 n a0 1 4096).bind fun y5 =>
 if !(decide (y5.1=0)) then
  some (y5.1)
 else
  (Zea n a0).bind fun y11 =>
  if decide (4096<y11) then
   some (9)
  else
   some (0)
def Zwm (x:ByteArray):Int:=Zp2 (Vl.mk 4 0 0 x [] [])
def Zwu:Option ByteArray→List ByteArray→Int
 | _,[]=>0
 | none,x::r=>if Zwm x=0 then Zwu (some x) r else Zwm x
 | some p,x::r=>if Zwm x=0 then (if sEq x p=true then 7 else if sLt x p=true then 24 else Zwu (some x) r) else Zwm x
def Ztc (l:List ByteArray):Nat→Option ByteArray
 | 0=>none
 | i+1=>l[i]?
theorem ZvN (x:ByteArray) (h:x.size≤1048576):(Vl.mk 4 0 0 x [] []).ok∧(Vl.mk 4 0 0 x [] []).size=1:=⟨by simp [Vl.ok,ZzD,ZzV,h],by simp [Vl.size,Zf6,Zfo]⟩
theorem ZCS (n:Nat) (hn:4≤n) (x:ByteArray) (h:x.size≤1048576):Zc5 n (ZgD x)=some (Zwm x):=by
 obtain ⟨h1,h2⟩:=ZvN x h
 have e:ZgD x=Vl.mk 4 0 0 x [] []:=rfl
 rw [e]
 exact ZqZ n _ (by rw [h2];omega) (by rw [h2];omega) h1
theorem ZB6 (n:Nat) (hn:4≤n) (x:ByteArray) (h:x.size≤1048576):ZhS n (Vl.mk 4 0 0 x [] [])=some (Zwm x):=by
 obtain ⟨h1,h2⟩:=ZvN x h
 exact ZlN n _ (by rw [h2];omega) (by rw [h2];omega) h1
theorem Zzt (n:Nat) (hn:4≤n) (t:Ty) (hl:t.words.length≤1000000000) (hz:∀ x∈t.words,x.size≤1048576):∀ (k m i:Nat),i+k=t.words.length→k<m→ZdX n t m i=some (Zwu (Ztc t.words i) (t.words.drop i))
 | k,0,i,_,h=>absurd h (Nat.not_lt_zero _)
 | 0,m+1,i,hi,_=>by
  rw [ZdX,Zal,decide_eq_false (by omega)]
  simp only [Bool.false_eq_true,if_false,ZiI]
  rw [List.drop_eq_nil_of_le (by omega)]
  cases Ztc t.words i<;>rfl
 | k+1,m+1,i,hi,hm=>by
  have a:i<t.words.length:=by omega
  have ih:=Zzt n hn t hl hz k m (i+1) (by omega) (by omega)
  rw [ZdX,Zal,decide_eq_true a]
  simp only [if_true,Zam a,Option.bind_some]
  rw [ZCS n hn _ (hz _ (List.getElem_mem a)),List.drop_eq_getElem_cons a]
  simp only [Option.bind_some]
  have hp:Ztc t.words (i+1)=some t.words[i]:=by simp only [Ztc,List.getElem?_eq_getElem a]
  rw [hp] at ih
  cases i with
  | zero =>
   simp only [Ztc,Zwu]
   by_cases hb:Zwm t.words[0]=0
   ·
    rw [if_pos hb,decide_eq_true hb]
    simp only [Bool.not_true,Bool.false_eq_true,if_false]
    rw [if_neg (by decide),if_pos (Zaj (by omega))]
    exact ih
   ·
    rw [if_neg hb,decide_eq_false hb];rfl
  | succ j =>
   have hj:j<t.words.length:=by omega
   have hq:Ztc t.words (j+1)=some t.words[j]:=by simp only [Ztc,List.getElem?_eq_getElem hj]
   rw [hq]
   simp only [Zwu]
   by_cases hb:Zwm t.words[j+1]=0
   ·
    rw [if_pos hb,decide_eq_true hb]
    simp only [Bool.not_true,Bool.false_eq_true,if_false,ZpK,if_true,ZkI]
    have hI:I64 (j:Int):=Zly (by omega)
    simp only [if_pos hI,Zam hj,Option.bind_some]
    by_cases h1:sEq t.words[j+1] t.words[j]=true
    ·
     rw [if_pos h1,if_pos h1]
    ·
     rw [if_neg h1,if_neg h1]
     by_cases h2:sLt t.words[j+1] t.words[j]=true
     ·
      rw [if_pos h2,if_pos h2]
     ·
      rw [if_neg h2,if_neg h2,if_pos (Zaj (by omega))]
      exact ih
   ·
    rw [if_neg hb,decide_eq_false hb];rfl
theorem Zwe (n:Nat) (hn:4≤n) (t:Ty) (hl:t.words.length≤1000000000) (hz:∀ x∈t.words,x.size≤1048576):∀ (k m i:Nat),i+k=t.words.length→k<m→Zfa n t m i=some (Zwu (Ztc t.words i) (t.words.drop i))
 | k,0,i,_,h=>absurd h (Nat.not_lt_zero _)
 | 0,m+1,i,hi,_=>by
  rw [Zfa,Zal,decide_eq_false (by omega)]
  simp only [Bool.false_eq_true,if_false,ZlW]
  rw [List.drop_eq_nil_of_le (by omega)]
  cases Ztc t.words i<;>rfl
 | k+1,m+1,i,hi,hm=>by
  have a:i<t.words.length:=by omega
  have ih:=Zwe n hn t hl hz k m (i+1) (by omega) (by omega)
  rw [Zfa,Zal,decide_eq_true a]
  simp only [if_true,Zam a,Option.bind_some]
  rw [ZB6 n hn _ (hz _ (List.getElem_mem a)),List.drop_eq_getElem_cons a]
  simp only [Option.bind_some]
  have hp:Ztc t.words (i+1)=some t.words[i]:=by simp only [Ztc,List.getElem?_eq_getElem a]
  rw [hp] at ih
  cases i with
  | zero =>
   simp only [Ztc,Zwu]
   by_cases hb:Zwm t.words[0]=0
   ·
    rw [if_pos hb,decide_eq_true hb]
    simp only [Bool.not_true,Bool.false_eq_true,if_false]
    rw [if_neg (by decide),if_pos (Zaj (by omega))]
    exact ih
   ·
    rw [if_neg hb,decide_eq_false hb];rfl
  | succ j =>
   have hj:j<t.words.length:=by omega
   have hq:Ztc t.words (j+1)=some t.words[j]:=by simp only [Ztc,List.getElem?_eq_getElem hj]
   rw [hq]
   simp only [Zwu]
   by_cases hb:Zwm t.words[j+1]=0
   ·
    rw [if_pos hb,decide_eq_true hb]
    simp only [Bool.not_true,Bool.false_eq_true,if_false,ZpK,if_true,ZkI]
    have hI:I64 (j:Int):=Zly (by omega)
    simp only [if_pos hI,Zam hj,Option.bind_some]
    by_cases h1:sEq t.words[j+1] t.words[j]=true
    ·
     rw [if_pos h1,if_pos h1]
    ·
     rw [if_neg h1,if_neg h1]
     by_cases h2:sLt t.words[j+1] t.words[j]=true
     ·
      rw [if_pos h2,if_pos h2]
     ·
      rw [if_neg h2,if_neg h2,if_pos (Zaj (by omega))]
      exact ih
   ·
    rw [if_neg hb,decide_eq_false hb];rfl
def ZiF (t:Ty):Int:=if t.min≠0∨t.max≠0 then 3 else if 64<t.words.length then 9 else Zwu none t.words
theorem Zvq (n:Nat) (hn:4≤n) (t:Ty) (hw:t.words.length<n) (hl:t.words.length≤1000000000) (hz:∀ x∈t.words,x.size≤1048576):ZjA n t=some (ZiF t):=by
 have e:=Zzt n hn t hl hz t.words.length n 0 (by omega) hw
 rw [List.drop_zero] at e
 rw [ZjA,ZiF]
 by_cases h:t.min≠0∨t.max≠0
 ·
  rw [if_pos h,if_pos (by simpa using h)]
 ·
  rw [if_neg h,if_neg (by simpa using h)]
  by_cases h2:64<t.words.length
  ·
   rw [if_pos h2,if_pos (decide_eq_true (by omega))]
  ·
   rw [if_neg h2,if_neg (by rw [decide_eq_true_eq];omega)]
   exact e
theorem Zuv (n:Nat) (hn:4≤n) (t:Ty) (hw:t.words.length<n) (hl:t.words.length≤1000000000) (hz:∀ x∈t.words,x.size≤1048576):Zlx n t=some (ZiF t):=by
 have e:=Zwe n hn t hl hz t.words.length n 0 (by omega) hw
 rw [List.drop_zero] at e
 rw [Zlx,ZiF]
 by_cases h:t.min≠0∨t.max≠0
 ·
  rw [if_pos h,if_pos (by simpa using h)]
 ·
  rw [if_neg h,if_neg (by simpa using h)]
  by_cases h2:64<t.words.length
  ·
   rw [if_pos h2,if_pos (decide_eq_true (by omega))]
  ·
   rw [if_neg h2,if_neg (by rw [decide_eq_true_eq];omega)]
   exact e
theorem Zso (n:Nat) (l:List TF) (p:TF→Bool) (hl:l.length≤1000000000) (hn:l.length<n):Zas n l (fun x=>some (p x))=some (l.any p):=by
 have e:=ZmF n l p hl l.length n 0 (by omega) hn
 have e2:Zay n l (fun x=>some (p x))=some (ffI p l 0):=e
 rw [Zas,e2,Option.bind_some]
 congr 1
 have := @List.findIdx_lt_length _ p l
 unfold ffI
 rw [List.drop_zero]
 by_cases h:l.findIdx p<l.length
 ·
  rw [if_pos h,decide_eq_true (by omega),List.any_eq_true.2 (this.1 h)]
 ·
  rw [if_neg h,decide_eq_false (by omega)]
  exact (Bool.eq_false_iff.2 fun q=>h (this.2 (List.any_eq_true.1 q))).symm
def Zkf (k:Int) (b:List TF) (x:TF):Int :=
 if Zei x.2.1=true then
  if ¬ (1≤x.1∧x.1≤9999) then 2
  else if (b.any fun q=>Zbb q x)=true then 7
  else if ¬ (1≤x.2.2.1∧x.2.2.1≤3)∨(k=10∧x.2.2.1≠1) then 11
  else if x.2.2.1=3∧x.2.2.2.2.length=0 then 4
  else if 1<x.2.2.2.2.length∨(x.2.2.1≠3∧0<x.2.2.2.2.length) then 3
  else 0
 else 12
def Zgb (k:Int):List TF→List TF→Int
 | _,[]=>0
 | b,x::r=>if Zkf k b x=0 then Zgb k (b++[x]) r else Zkf k b x
theorem Zl3 {α:Type} (l:List α) (i:Nat) (h:i<l.length):l.take i++[l[i]]=l.take (i+1):=by rw [List.take_succ_eq_append_getElem h]
theorem ZvE (n:Nat) (t:Ty) (i:Nat) (h:i<t.fields.length) (hl:t.fields.length≤1000000000) (hn:t.fields.length<n) (hz:∀ p∈t.fields,p.2.1.size≤1048576):Zi7 n t i=some (Zkf t.kind (t.fields.take i) t.fields[i]):=by
 rw [Zi7,Zam h]
 simp only [Option.bind_some]
 rw [if_pos (Zmf (by have:=hz _ (List.getElem_mem h);omega)),Zkf,Int.toNat_natCast,Zso n _ _ (by rw [List.length_take];omega) (by rw [List.length_take];omega)]
 simp only [Option.bind_some]
 by_cases h1:Zei t.fields[i].2.1=true
 rotate_left
 ·
  rw [if_neg h1,Bool.eq_false_iff.2 h1];rfl
 rw [if_pos h1,h1]
 simp only [Bool.not_true,Bool.false_eq_true,if_false]
 by_cases h2:1≤t.fields[i].1∧t.fields[i].1≤9999
 rotate_left
 ·
  rw [if_pos (show (!(decide (1≤t.fields[i].1)&&decide (t.fields[i].1≤9999)))=true by simp;omega),if_pos h2]
 rw [if_neg (show ¬ (!(decide (1≤t.fields[i].1)&&decide (t.fields[i].1≤9999)))=true by simp;omega),if_neg (fun q:¬ _=>q h2),if_pos (by omega)]
 by_cases h3:((t.fields.take i).any fun q=>Zbb q t.fields[i])=true
 ·
  rw [if_pos h3,if_pos h3]
 rw [if_neg h3,if_neg h3]
 by_cases h4:¬ (1≤t.fields[i].2.2.1∧t.fields[i].2.2.1≤3)∨(t.kind=10∧t.fields[i].2.2.1≠1)
 ·
  rw [if_pos h4,if_pos (by simp;omega)]
 rw [if_neg h4,if_neg (by simp;omega)]
 by_cases h5:t.fields[i].2.2.1=3∧t.fields[i].2.2.2.2.length=0
 ·
  rw [if_pos h5,if_pos (by simp;exact ⟨h5.1,List.length_eq_zero_iff.1 h5.2⟩)]
 rw [if_neg h5,if_neg (by simp;intro a b;exact h5 ⟨a,by rw [b];rfl⟩)]
 by_cases h6:1<t.fields[i].2.2.2.2.length∨(t.fields[i].2.2.1≠3∧0<t.fields[i].2.2.2.2.length)
 ·
  rw [if_pos h6,if_pos (by simp only [Bool.or_eq_true,Bool.and_eq_true,decide_eq_true_eq,Bool.not_eq_true',decide_eq_false_iff_not];omega)]
 ·
  rw [if_neg h6,if_neg (by simp only [Bool.or_eq_true,Bool.and_eq_true,decide_eq_true_eq,Bool.not_eq_true',decide_eq_false_iff_not];omega)]
theorem Ztu (n:Nat) (t:Ty) (hl:t.fields.length≤1000000000) (hn:t.fields.length<n) (hz:∀ p∈t.fields,p.2.1.size≤1048576):∀ (k m i:Nat),i+k=t.fields.length→k<m→Zgf n t m i=some (Zgb t.kind (t.fields.take i) (t.fields.drop i))
 | k,0,i,_,h=>absurd h (Nat.not_lt_zero _)
 | 0,m+1,i,hi,_=>by
  rw [Zgf,Zal,decide_eq_false (by omega)]
  rw [List.drop_eq_nil_of_le (by omega)];rfl
 | k+1,m+1,i,hi,hm=>by
  have a:i<t.fields.length:=by omega
  rw [Zgf,Zal,decide_eq_true a,ZvE n t i a hl hn hz,List.drop_eq_getElem_cons a,Zgb]
  simp only [if_true,Option.bind_some]
  by_cases h:Zkf t.kind (t.fields.take i) t.fields[i]=0
  ·
   rw [decide_eq_true h,if_pos h]
   simp only [Bool.not_true,Bool.false_eq_true,if_false]
   rw [if_pos (Zaj (by omega)),Zl3 _ _ a]
   exact Ztu n t hl hn hz k m (i+1) (by omega) (by omega)
  ·
   rw [decide_eq_false h,if_neg h];rfl
theorem ZvB (n:Nat) (ag:Int→Option Int) (t:Ty) (i:Nat) (x:TF) (hi:i≤t.fields.length) (hl:t.fields.length≤1000000000):∀ (k m j:Nat),j+k=i→k<m →
  Zfc n ag t i x m j=if ((t.fields.take i).drop j).any (fun q=>Zbb q x)=true then some 7 else Zh9 n ag t i x
 | k,0,j,_,h=>absurd h (Nat.not_lt_zero _)
 | 0,m+1,j,hj,_=>by
  rw [Zfc,Zal,decide_eq_false (by omega),List.drop_eq_nil_of_le (by rw [List.length_take];omega)];rfl
 | k+1,m+1,j,hj,hm=>by
  have b:j<t.fields.length:=by omega
  have a:j<(t.fields.take i).length:=by rw [List.length_take];omega
  rw [Zfc,Zal,decide_eq_true (by omega),List.drop_eq_getElem_cons a,List.any_cons,List.getElem_take]
  simp only [if_true,Zam b,Option.bind_some]
  by_cases h1:sEq t.fields[j].2.1 x.2.1=true
  ·
   have e:Zbb t.fields[j] x=true:=by rw [Zbb,h1];rfl
   rw [if_pos h1,e,Bool.true_or,if_pos rfl]
  ·
   rw [if_neg h1]
   by_cases h2:t.fields[j].1=x.1
   ·
    have e:Zbb t.fields[j] x=true:=by rw [Zbb,decide_eq_true h2,Bool.or_true]
    rw [decide_eq_true h2,e,Bool.true_or,if_pos rfl,if_pos rfl]
   ·
    have e:Zbb t.fields[j] x=false:=by rw [Zbb,decide_eq_false h2,Bool.eq_false_iff.2 h1];rfl
    rw [decide_eq_false h2,e,Bool.false_or,if_neg (by decide),if_pos (Zaj (by omega))]
    exact ZvB n ag t i x hi hl k m (j+1) (by omega) (by omega)
theorem Zu1 (n:Nat) (t:Ty) (hl:t.fields.length≤1000000000) (hn:t.fields.length<n) (hz:∀ p∈t.fields,p.2.1.size≤1048576):∀ (k m i:Nat),i+k=t.fields.length→k<m→Zeh n t m i=some (Zgb t.kind (t.fields.take i) (t.fields.drop i))
 | k,0,i,_,h=>absurd h (Nat.not_lt_zero _)
 | 0,m+1,i,hi,_=>by
  rw [Zeh,Zal,decide_eq_false (by omega)]
  rw [List.drop_eq_nil_of_le (by omega)];rfl
 | k+1,m+1,i,hi,hm=>by
  have c:i<t.fields.length:=by omega
  have ih:=Zu1 n t hl hn hz k m (i+1) (by omega) (by omega)
  have e:=ZvB n (Zeh n t m) t i t.fields[i] (by omega) hl i n 0 (by omega) (by omega)
  rw [List.drop_zero] at e
  rw [Zeh,Zal,decide_eq_true c,List.drop_eq_getElem_cons c,Zgb,Zkf]
  simp only [if_true,Zam c,Option.bind_some]
  rw [if_pos (Zmf (by have:=hz _ (List.getElem_mem c);omega))]
  by_cases h1:Zei t.fields[i].2.1=true
  rotate_left
  ·
   simp only [if_neg h1,Bool.eq_false_iff.2 h1];rfl
  simp only [if_pos h1,h1]
  simp only [Bool.not_true,Bool.false_eq_true,if_false]
  by_cases h2:1≤t.fields[i].1∧t.fields[i].1≤9999
  rotate_left
  ·
   simp only [if_pos h2];rw [if_pos (by simp;omega)];rfl
  simp only [if_neg (fun q:¬ _=>q h2)]
  rw [if_neg (by simp;omega)]
  refine e.trans ?_
  by_cases h3:((t.fields.take i).any fun q=>Zbb q t.fields[i])=true
  ·
   simp only [if_pos h3];rfl
  simp only [if_neg h3]
  rw [Zh9]
  by_cases h4:¬ (1≤t.fields[i].2.2.1∧t.fields[i].2.2.1≤3)∨(t.kind=10∧t.fields[i].2.2.1≠1)
  ·
   simp only [if_pos h4];rw [if_pos (by simp;omega)];rfl
  simp only [if_neg h4]
  rw [if_neg (by simp;omega)]
  by_cases h5:t.fields[i].2.2.1=3∧t.fields[i].2.2.2.2.length=0
  ·
   simp only [if_pos h5];rw [if_pos (by simp;exact ⟨h5.1,List.length_eq_zero_iff.1 h5.2⟩)];rfl
  simp only [if_neg h5]
  rw [if_neg (by simp;intro a b;exact h5 ⟨a,by rw [b];rfl⟩)]
  by_cases h6:1<t.fields[i].2.2.2.2.length∨(t.fields[i].2.2.1≠3∧0<t.fields[i].2.2.2.2.length)
  ·
   simp only [if_pos h6];rw [if_pos (by simp only [Bool.or_eq_true,Bool.and_eq_true,decide_eq_true_eq,Bool.not_eq_true',decide_eq_false_iff_not];omega)];rfl
  ·
   simp only [if_neg h6]
   rw [if_neg (by simp only [Bool.or_eq_true,Bool.and_eq_true,decide_eq_true_eq,Bool.not_eq_true',decide_eq_false_iff_not];omega),ZkH,if_pos (Zaj (by omega)),if_pos trivial,Zl3 _ _ c]
   exact ih
def ZrI (t:Ty):Int :=
 if t.kind<1∨10<t.kind then 11
 else if ZaX t=true then 3
 else if t.kind=4∧0<t.words.length then ZiF t
 else if ((2≤t.kind∧t.kind≤8)∧Zbq t (Zat t.kind).1 (Zat t.kind).2=false)∨¬ (0≤t.scale∧t.scale≤12) then 2
 else if (t.kind=8∧t.elem.length=0)∨(t.kind=10∧t.fields.length=0) then 4
 else if 1<t.elem.length then 3
 else if 64<t.fields.length then 9
 else Zgb t.kind [] t.fields
def Ty.fit (t:Ty) (n:Nat):Prop:=4≤n∧t.words.length<n∧t.fields.length<n∧t.words.length≤1000000000∧t.fields.length≤1000000000∧t.elem.length≤1000000000∧(∀ x∈t.words,x.size≤1048576)∧∀ p∈t.fields,p.2.1.size≤1048576
theorem Zsp (n:Nat) (t:Ty) (h:t.fit n):Zko n t=some (if 64<t.fields.length then 9 else Zgb t.kind [] t.fields):=by
 obtain ⟨h1,h2,h3,h4,h5,h6,h7,h8⟩:=h
 have e:=Zu1 n t h5 h3 h8 t.fields.length n 0 (by omega) h3
 rw [List.drop_zero,List.take_zero] at e
 rw [Zko]
 by_cases q:64<t.fields.length
 ·
  rw [if_pos q,if_pos (decide_eq_true (by omega))]
 ·
  rw [if_neg q,if_neg (by rw [decide_eq_true_eq];omega)]
  exact e
theorem Ztp (n:Nat) (t:Ty) (h:t.fit n):ZpO n t=some (ZrI t):=by
 have hf:=Zsp n t h
 obtain ⟨h1,h2,h3,h4,h5,h6,h7,h8⟩:=h
 have hw:=Zuv n h1 t h2 h4 h7
 rw [ZpO,ZrI]
 by_cases q1:t.kind<1∨10<t.kind
 ·
  rw [if_pos q1,if_pos (by simp;omega)]
 rw [if_neg q1,if_neg (by simp;omega)]
 by_cases q2:ZaX t=true
 ·
  rw [if_pos q2,if_pos q2]
 rw [if_neg q2,if_neg q2]
 by_cases q3:t.kind=4∧0<t.words.length
 ·
  rw [if_pos q3,if_pos (by simp only [Bool.and_eq_true,decide_eq_true_eq];omega),hw];rfl
 rw [if_neg q3,if_neg (by simp only [Bool.and_eq_true,decide_eq_true_eq];omega)]
 by_cases q4:((2≤t.kind∧t.kind≤8)∧Zbq t (Zat t.kind).1 (Zat t.kind).2=false)∨¬ (0≤t.scale∧t.scale≤12)
 ·
  rw [if_pos q4,if_pos]
  simp only [Bool.or_eq_true,Bool.and_eq_true,Bool.not_eq_true',decide_eq_true_eq,Bool.and_eq_false_iff,decide_eq_false_iff_not]
  rcases q4 with q4 | q4
  ·
   exact .inl q4
  ·
   exact .inr (by omega)
 rw [if_neg q4,if_neg (by
  simp only [Bool.or_eq_true,Bool.and_eq_true,Bool.not_eq_true',decide_eq_true_eq,Bool.and_eq_false_iff,decide_eq_false_iff_not]
  intro h
  rcases h with h | h
  ·
   exact q4 (.inl h)
  ·
   exact q4 (.inr (by omega)))]
 by_cases q5:(t.kind=8∧t.elem.length=0)∨(t.kind=10∧t.fields.length=0)
 ·
  rw [if_pos q5,if_pos (by simp only [Bool.or_eq_true,Bool.and_eq_true,decide_eq_true_eq];omega)]
 rw [if_neg q5,if_neg (by simp only [Bool.or_eq_true,Bool.and_eq_true,decide_eq_true_eq];omega)]
 by_cases q6:1<t.elem.length
 ·
  rw [if_pos q6,if_pos (decide_eq_true (by omega))]
 rw [if_neg q6,if_neg (by rw [decide_eq_true_eq];omega),hf];rfl
def Zr5 (k:Int):Lim:=(Zf4[k.toNat]?).getD (Lim.mk ⟨#[]⟩ 0 0 false false false false false)
theorem ZzI (k:Int) (h:¬ (k<1∨10<k)):idx Zf4 k=some (Zr5 k):=by
 rcases Zel h with hk | hk | hk | hk | hk | hk | hk | hk | hk | hk<;>subst hk<;>rfl
theorem ZAa (t:Ty) (h:¬ (t.kind<1∨10<t.kind)):Zii t (Zr5 t.kind)=if ZaX t=true then 3 else 0:=by
 have hp:∀ x:Nat,decide (0<(x:Int)) = !decide ((x:Int)=0):=fun x=>by
  by_cases h:x=0
  ·
   subst h;rfl
  ·
   rw [decide_eq_true (show 0<(x:Int) by omega),decide_eq_false (show ¬ (x:Int)=0 by omega)];rfl
 have hm:decide (t.min=0)=true∨decide (t.min=0)=false:=by cases decide (t.min=0)<;>simp
 rw [Zii,ZaX]
 simp only [hp,Zf3]
 generalize decide (t.min=0)=b1
 generalize decide (t.max=0)=b2
 generalize decide (t.scale=0)=b3
 generalize decide ((t.words.length:Int)=0)=b4
 generalize decide ((t.elem.length:Int)=0)=b5
 generalize decide ((t.fields.length:Int)=0)=b6
 clear hm hp
 rcases Zel h with hk | hk | hk | hk | hk | hk | hk | hk | hk | hk<;>simp only [hk]<;>cases b1<;>cases b2<;>cases b3<;>cases b4<;>cases b5<;>cases b6<;>rfl
theorem ZAq (n:Nat) (t:Ty) (h:t.fit n):ZmX n t=some (ZrI t):=by
 obtain ⟨h1,h2,h3,h4,h5,h6,h7,h8⟩:=h
 have hw:=Zvq n h1 t h2 h4 h7
 have hf:=Ztu n t h5 h3 h8 t.fields.length n 0 (by omega) h3
 rw [List.drop_zero,List.take_zero] at hf
 have g:Zgf n t n 0=some (Zgb t.kind [] t.fields):=hf
 have hF:Zgc n t false=some (if 1<t.elem.length∧t.kind=8 then 3 else if 64<t.fields.length then 9 else Zgb t.kind [] t.fields):=by
  rw [Zgc,if_neg (by decide)]
  by_cases q:1<t.elem.length∧t.kind=8
  ·
   rw [if_pos q,if_pos (by simp only [Bool.and_eq_true,decide_eq_true_eq];omega)]
  ·
   rw [if_neg q,if_neg (by simp only [Bool.and_eq_true,decide_eq_true_eq];omega)]
   by_cases q2:64<t.fields.length
   ·
    rw [if_pos q2,if_pos (decide_eq_true (by omega))]
   ·
    rw [if_neg q2,if_neg (by rw [decide_eq_true_eq];omega),g]
 have hT:Zgc n t true=some 4:=by rw [Zgc,if_pos rfl]
 have i:¬ ZaX t=true→ZhV n t=some (if (t.kind=8∧t.elem.length=0)∨(t.kind=10∧t.fields.length=0) then 4 else if 1<t.elem.length then 3 else if 64<t.fields.length then 9 else Zgb t.kind [] t.fields):=fun hu=>by
  have he:1<t.elem.length→t.kind=8:=fun q=>by
   by_cases k8:t.kind=8
   ·
    exact k8
   ·
    exfalso;apply hu;rw [ZaX,decide_eq_false k8,decide_eq_true (show 0<(t.elem.length:Int) by omega)];simp
  rw [ZhV]
  by_cases q1:t.kind=8∧t.elem.length=0
  ·
   rw [if_pos (by simp only [Bool.and_eq_true,decide_eq_true_eq];omega),hT,if_pos (.inl q1)]
  rw [if_neg (by simp only [Bool.and_eq_true,decide_eq_true_eq];omega)]
  by_cases q2:t.kind=10∧t.fields.length=0
  ·
   rw [decide_eq_true q2.1,decide_eq_true (show (t.fields.length:Int)=0 by omega),show (true&&true)=true from rfl,hT,if_pos (.inr q2)]
  ·
   have e:(decide (t.kind=10)&&decide ((t.fields.length:Int)=0))=false:=by
    rw [Bool.eq_false_iff];simp only [ne_eq,Bool.and_eq_true,decide_eq_true_eq];omega
   rw [e,hF,if_neg (show ¬ ((t.kind=8∧t.elem.length=0)∨(t.kind=10∧t.fields.length=0)) by omega)]
   by_cases q3:1<t.elem.length
   ·
    rw [if_pos ⟨q3,he q3⟩,if_pos q3]
   ·
    rw [if_neg (fun q=>q3 q.1),if_neg q3]
 rw [ZmX,ZrI]
 by_cases q1:t.kind<1∨10<t.kind
 ·
  rw [if_pos q1,if_pos (by simp;omega)]
 rw [if_neg q1,if_neg (by simp;omega),ZzI _ q1]
 simp only [Option.bind_some]
 rw [ZAa t q1]
 by_cases q2:ZaX t=true
 ·
  rw [if_pos q2,if_pos q2];rfl
 rw [if_neg q2,if_neg q2,if_neg (by decide)]
 have c:=i q2
 by_cases q3:t.kind=4∧0<t.words.length
 ·
  rw [if_pos q3,if_pos (by simp only [Bool.and_eq_true,decide_eq_true_eq];omega),hw]
  simp only [Option.bind_some]
  by_cases z:ZiF t=0
  ·
   rw [decide_eq_true z,z,if_neg (by decide),c]
   have e1:t.elem.length=0:=by
    rcases Nat.eq_zero_or_pos t.elem.length with e | e
    ·
     exact e
    ·
     exfalso;apply q2;rw [ZaX,decide_eq_false (show ¬ t.kind=8 by omega),decide_eq_true (show 0<(t.elem.length:Int) by omega)];simp
   have e2:t.fields.length=0:=by
    rcases Nat.eq_zero_or_pos t.fields.length with e | e
    ·
     exact e
    ·
     exfalso;apply q2;rw [ZaX,decide_eq_false (show ¬ t.kind=9 by omega),decide_eq_false (show ¬ t.kind=10 by omega),decide_eq_true (show 0<(t.fields.length:Int) by omega)];simp
   rw [if_neg (by omega),if_neg (by omega),if_neg (by omega),List.length_eq_zero_iff.1 e2];rfl
  ·
   rw [decide_eq_false z];rfl
 rw [if_neg q3,if_neg (by simp only [Bool.and_eq_true,decide_eq_true_eq];omega)]
 have d:t.kind≠3→t.scale=0:=fun k3=>by
  by_cases z:t.scale=0
  ·
   exact z
  ·
   exfalso;apply q2;rw [ZaX,decide_eq_false k3,decide_eq_false z];simp
 have hb:((Zr5 t.kind).bounds&&(((decide (t.max<t.min))||(decide (t.min<(Zr5 t.kind).low)))||(decide ((Zr5 t.kind).high<t.max))))=((decide (2≤t.kind∧t.kind≤8)) && !(Zbq t (Zat t.kind).1 (Zat t.kind).2)):=by
  have g1:∀ a b:Int,decide (a<b) = !decide (b≤a):=fun a b=>by
   by_cases q:a<b
   ·
    rw [decide_eq_true q,decide_eq_false (by omega)];rfl
   ·
    rw [decide_eq_false q,decide_eq_true (by omega)];rfl
  simp only [g1,Zbq]
  rcases Zel q1 with hk | hk | hk | hk | hk | hk | hk | hk | hk | hk<;>simp only [hk] <;>
   simp [Zr5,Zf4,Zat,Zjg,Zih,Bool.or_comm,Bool.or_left_comm,Bool.or_assoc]
 have hs:(Zr5 t.kind).scale=decide (t.kind=3):=by
  rcases Zel q1 with hk | hk | hk | hk | hk | hk | hk | hk | hk | hk<;>simp only [hk]<;>rfl
 rw [hb,hs]
 by_cases q4:(2≤t.kind∧t.kind≤8)∧Zbq t (Zat t.kind).1 (Zat t.kind).2=false
 ·
  rw [decide_eq_true q4.1,if_pos (Or.inl q4),q4.2];rfl
 have f:(decide (2≤t.kind∧t.kind≤8) && !(Zbq t (Zat t.kind).1 (Zat t.kind).2))=false:=by
  rw [Bool.eq_false_iff];simp only [ne_eq,Bool.and_eq_true,decide_eq_true_eq,Bool.not_eq_true'];exact q4
 rw [f,if_neg (by decide)]
 by_cases q5:¬ (0≤t.scale∧t.scale≤12)
 ·
  have k3:t.kind=3:=by
   by_cases k3:t.kind=3
   ·
    exact k3
   ·
    exact absurd (d k3) (by omega)
  have e:(decide (t.kind=3) && !(decide (0≤t.scale)&&decide (t.scale≤12)))=true:=by simp [k3];omega
  rw [if_pos (Or.inr q5),e];rfl
 ·
  have e:(decide (t.kind=3) && !(decide (0≤t.scale)&&decide (t.scale≤12)))=false:=by
   rw [Bool.eq_false_iff];simp;omega
  rw [if_neg (fun q:_∨_=>q.elim q4 q5),e,Zi0,if_neg (by decide),c]
inductive Ty.Good:Ty→Prop
 | mk (t:Ty) (h:ZrI t=0) (he:∀ x∈t.elem,Ty.Good x) (hf:∀ p∈t.fields,Ty.Good p.2.2.2.1):Ty.Good t
inductive Vl.Good:Vl→Prop
 | mk (v:Vl) (h:Zhc v=0) (hp:∀ x∈Za6 v,Vl.Good x):Vl.Good v
theorem Zst:∀ (l:List (Nat × Vl)) (c:Int),Zn0 l c=0→∀ p∈l,Zhc p.2=0
 | [],_,_,p,hp=>by simp at hp
 | q::r,c,h,p,hp=>by
  rw [Zn0] at h
  split at h
  ·
   cases h
  ·
   split at h
   ·
    cases h
   ·
    split at h
    ·
     rename_i h0
     rcases List.mem_cons.1 hp with rfl | hp
     ·
      exact h0
     ·
      exact Zst r (c+1) h p hp
    ·
     rename_i h0;exact absurd h h0
theorem ZmV:∀ (k:Nat) (v:Vl) (lv:Nat),v.size≤k→(∀ p∈Zha lv v,Zhc p.2=0)→v.Good
 | 0,v,lv,h,_=>absurd h (by have:=v.size_eq;omega)
 | k+1,v,lv,h,hp=>by
  rw [Zhp] at hp
  refine .mk v (hp (lv,v) (List.mem_cons_self ..)) fun x hx=>?_
  have:=Zd4 hx
  exact ZmV k x (lv+1) (by omega) fun p h2=>hp p (List.mem_cons_of_mem _ (List.mem_flatMap.2 ⟨x,hx,h2⟩))
theorem Zh4 {v:Vl} (h:Zp2 v=0):v.Good:=ZmV v.size v 1 (Nat.le_refl _) (Zst _ _ h)
theorem ZkJ {v:Vl} (h:Zhc v=0):¬ (v.kind<1∨10<v.kind)∧¬ Zby v=true:=by
 rw [Zhc] at h
 by_cases h1:Za8 v=true
 ·
  rw [if_pos h1] at h;exact absurd h (by decide)
 rw [if_neg h1] at h
 by_cases h2:v.kind<1∨10<v.kind
 ·
  rw [if_pos h2] at h;exact absurd h (by decide)
 rw [if_neg h2] at h
 by_cases h3:Zby v=true
 ·
  rw [if_pos h3] at h;exact absurd h (by decide)
 exact ⟨h2,h3⟩
theorem ZkQ {t:Ty} (h:ZrI t=0):¬ (t.kind<1∨10<t.kind)∧¬ ZaX t=true∧¬ ((t.kind=8∧t.elem.length=0)∨(t.kind=10∧t.fields.length=0)):=by
 rw [ZrI] at h
 by_cases h1:t.kind<1∨10<t.kind
 ·
  rw [if_pos h1] at h;exact absurd h (by decide)
 rw [if_neg h1] at h
 by_cases h2:ZaX t=true
 ·
  rw [if_pos h2] at h;exact absurd h (by decide)
 rw [if_neg h2] at h
 refine ⟨h1,h2,?_⟩
 by_cases h3:t.kind=4∧0<t.words.length
 ·
  omega
 rw [if_neg h3] at h
 by_cases h4:((2≤t.kind∧t.kind≤8)∧Zbq t (Zat t.kind).1 (Zat t.kind).2=false)∨¬ (0≤t.scale∧t.scale≤12)
 ·
  rw [if_pos h4] at h;exact absurd h (by decide)
 rw [if_neg h4] at h
 by_cases h5:(t.kind=8∧t.elem.length=0)∨(t.kind=10∧t.fields.length=0)
 ·
  rw [if_pos h5] at h;exact absurd h (by decide)
 exact h5
theorem Ty.scale0 {t:Ty} (h:¬ ZaX t=true) (k:t.kind≠3):t.scale=0:=by
 by_cases z:t.scale=0
 ·
  exact z
 ·
  exfalso;apply h;rw [ZaX,decide_eq_false k,decide_eq_false z];simp
theorem Vl.scale0 {v:Vl} (h:¬ Zby v=true) (k:v.kind≠3):v.scale=0:=by
 by_cases z:v.scale=0
 ·
  exact z
 ·
  exfalso;apply h;rw [Zby,decide_eq_false k,decide_eq_false z];simp
theorem ZlI {α:Type} (p:α→Bool) (l:List α):decide (0≤ffI p l 0)=l.any p:=by
 have := @List.findIdx_lt_length _ p l
 unfold ffI
 rw [List.drop_zero]
 by_cases h:l.findIdx p<l.length
 ·
  rw [if_pos h,decide_eq_true (by omega),List.any_eq_true.2 (this.1 h)]
 ·
  rw [if_neg h,decide_eq_false (by omega)]
  exact (Bool.eq_false_iff.2 fun q=>h (this.2 (List.any_eq_true.1 q))).symm
theorem ZrN {α:Type} (p:α→Bool) (l:List α):decide (ffI p l 0<0) = !l.any p:=by
 rw [←ZlI]
 by_cases h:0≤ffI p l 0
 ·
  rw [decide_eq_true h,decide_eq_false (by omega)];rfl
 ·
  rw [decide_eq_false h,decide_eq_true (by omega)];rfl
theorem Zys (n:Nat) (l:List (Vl)) (f:Vl→Option Bool) (p:Vl→Bool) (hf:∀ x∈l,f x=some (p x)) (hl:l.length≤1000000000):∀ (k m i:Nat),i+k=l.length→k<m→Zbj n l f m i=some (ffI p l i)
 | k,0,i,_,h=>absurd h (Nat.not_lt_zero _)
 | 0,m+1,i,hi,_=>by
  rw [Zbj,Zal,decide_eq_false (by omega),Zin p l i (by omega)]
  rfl
 | k+1,m+1,i,hi,hm=>by
  have a:i<l.length:=by omega
  rw [Zbj,Zal,decide_eq_true a,ZgB p l i a]
  simp only [if_true,Zam a,Option.bind_some,hf _ (List.getElem_mem a)]
  by_cases h:p l[i]=true
  ·
   rw [if_pos h,if_pos h]
  ·
   rw [if_neg h,if_neg h,if_pos (Zaj (by omega))]
   exact Zys n l f p hf hl k m (i+1) (by omega) (by omega)
theorem Ztm (n:Nat) (l:List (ByteArray × Vl)) (f:ByteArray × Vl→Option Bool) (p:ByteArray × Vl→Bool) (hf:∀ x∈l,f x=some (p x)) (hl:l.length≤1000000000):∀ (k m i:Nat),i+k=l.length→k<m→ZaZ n l f m i=some (ffI p l i)
 | k,0,i,_,h=>absurd h (Nat.not_lt_zero _)
 | 0,m+1,i,hi,_=>by
  rw [ZaZ,Zal,decide_eq_false (by omega),Zin p l i (by omega)]
  rfl
 | k+1,m+1,i,hi,hm=>by
  have a:i<l.length:=by omega
  rw [ZaZ,Zal,decide_eq_true a,ZgB p l i a]
  simp only [if_true,Zam a,Option.bind_some,hf _ (List.getElem_mem a)]
  by_cases h:p l[i]=true
  ·
   rw [if_pos h,if_pos h]
  ·
   rw [if_neg h,if_neg h,if_pos (Zaj (by omega))]
   exact Ztm n l f p hf hl k m (i+1) (by omega) (by omega)
theorem Zvp (n:Nat) (l:List (TF)) (f:TF→Option Bool) (p:TF→Bool) (hf:∀ x∈l,f x=some (p x)) (hl:l.length≤1000000000):∀ (k m i:Nat),i+k=l.length→k<m→Zaw n l f m i=some (ffI p l i)
 | k,0,i,_,h=>absurd h (Nat.not_lt_zero _)
 | 0,m+1,i,hi,_=>by
  rw [Zaw,Zal,decide_eq_false (by omega),Zin p l i (by omega)]
  rfl
 | k+1,m+1,i,hi,hm=>by
  have a:i<l.length:=by omega
  rw [Zaw,Zal,decide_eq_true a,ZgB p l i a]
  simp only [if_true,Zam a,Option.bind_some,hf _ (List.getElem_mem a)]
  by_cases h:p l[i]=true
  ·
   rw [if_pos h,if_pos h]
  ·
   rw [if_neg h,if_neg h,if_pos (Zaj (by omega))]
   exact Zvp n l f p hf hl k m (i+1) (by omega) (by omega)
theorem ZyV (n:Nat) (l:List ByteArray) (w:ByteArray) (hl:(l).length≤1000000000):∀ (k m i:Nat),i+k=(l).length→k<m→ZbP n l w m i=some (ffI (fun x=>sEq w x) (l) i)
 | k,0,i,_,h=>absurd h (Nat.not_lt_zero _)
 | 0,m+1,i,hi,_=>by
  rw [ZbP,Zal,decide_eq_false (by omega),Zin _ (l) i (by omega)]
  rfl
 | k+1,m+1,i,hi,hm=>by
  have a:i<(l).length:=by omega
  rw [ZbP,Zal,decide_eq_true a,ZgB _ (l) i a]
  simp only [if_true,Zam a,Option.bind_some]
  by_cases h:(fun x=>sEq w x) (l)[i]=true
  ·
   rw [if_pos h,if_pos h]
  ·
   rw [if_neg h,if_neg h,if_pos (Zaj (by omega))]
   exact ZyV n l w hl k m (i+1) (by omega) (by omega)
theorem ZoW (n:Nat) (t:Ty) (w:ByteArray) (hl:(t.fields).length≤1000000000):∀ (k m i:Nat),i+k=(t.fields).length→k<m→ZgX n t w m i=some (ffI (fun x:TF=>sEq x.2.1 w) (t.fields) i)
 | k,0,i,_,h=>absurd h (Nat.not_lt_zero _)
 | 0,m+1,i,hi,_=>by
  rw [ZgX,Zal,decide_eq_false (by omega),Zin _ (t.fields) i (by omega)]
  rfl
 | k+1,m+1,i,hi,hm=>by
  have a:i<(t.fields).length:=by omega
  rw [ZgX,Zal,decide_eq_true a,ZgB _ (t.fields) i a]
  simp only [if_true,Zam a,Option.bind_some]
  by_cases h:(fun x:TF=>sEq x.2.1 w) (t.fields)[i]=true
  ·
   rw [if_pos h,if_pos h]
  ·
   rw [if_neg h,if_neg h,if_pos (Zaj (by omega))]
   exact ZoW n t w hl k m (i+1) (by omega) (by omega)
theorem ZqI (n:Nat) (v:Vl) (w:ByteArray) (hk:v.kind=9) (hl:(v.fields).length≤1000000000):∀ (k m i:Nat),i+k=(v.fields).length→k<m→ZhL n v w m i=some (ffI (fun x:ByteArray × Vl=>sEq x.1 w) (v.fields) i)
 | k,0,i,_,h=>absurd h (Nat.not_lt_zero _)
 | 0,m+1,i,hi,_=>by
  rw [ZhL,decide_eq_true hk,Zal,decide_eq_false (by omega),Zin _ (v.fields) i (by omega)]
  simp only [Bool.and_false,Bool.false_eq_true,if_false];rfl
 | k+1,m+1,i,hi,hm=>by
  have a:i<(v.fields).length:=by omega
  rw [ZhL,decide_eq_true hk,Zal,decide_eq_true a,ZgB _ (v.fields) i a]
  simp only [Bool.and_self,if_true,Zam a,Option.bind_some]
  by_cases h:(fun x:ByteArray × Vl=>sEq x.1 w) (v.fields)[i]=true
  ·
   rw [if_pos h,if_pos h]
  ·
   rw [if_neg h,if_neg h,if_pos (Zaj (by omega))]
   exact ZqI n v w hk hl k m (i+1) (by omega) (by omega)
theorem ZjD (n:Nat) (t:Ty) (w:ByteArray) (hl:t.fields.length≤1000000000) (hn:t.fields.length<n):ZlR n t w=some (ffI (fun x:TF=>sEq x.2.1 w) t.fields 0):=ZoW n t w hl t.fields.length n 0 (by omega) hn
theorem ZvD (n:Nat) (v:Vl) (w:ByteArray) (hk:v.kind=9) (hl:v.fields.length≤1000000000) (hn:v.fields.length<n):Zq4 n v w=some (ffI (fun x:ByteArray × Vl=>sEq x.1 w) v.fields 0):=ZqI n v w hk hl v.fields.length n 0 (by omega) hn
theorem Zl5 (n:Nat) (l:List ByteArray) (w:ByteArray) (hl:l.length≤1000000000) (hn:l.length<n):ZaR n l w=some (l.any fun x=>sEq w x):=by
 have e:Zek n l w=some (ffI (fun x=>sEq w x) l 0):=ZyV n l w hl l.length n 0 (by omega) hn
 rw [ZaR,e,Option.bind_some,ZlI]
theorem Zp9 (n:Nat) (l:List Vl) (f:Vl→Option Bool) (p:Vl→Bool) (hf:∀ x∈l,f x=some (p x)) (hl:l.length≤1000000000) (hn:l.length<n):ZbJ n l f=some (l.any p):=by
 have e:ZcY n l f=some (ffI p l 0):=Zys n l f p hf hl l.length n 0 (by omega) hn
 rw [ZbJ,e,Option.bind_some,ZlI]
theorem Zq1 (n:Nat) (l:List TF) (f:TF→Option Bool) (p:TF→Bool) (hf:∀ x∈l,f x=some (p x)) (hl:l.length≤1000000000) (hn:l.length<n):Zas n l f=some (l.any p):=by
 have e:Zay n l f=some (ffI p l 0):=Zvp n l f p hf hl l.length n 0 (by omega) hn
 rw [Zas,e,Option.bind_some,ZlI]
def ZAz (v:Vl) (w:ByteArray):Bool:=v.fields.any fun x=>sEq x.1 w
theorem Zvo (n:Nat) (v:Vl) (w:ByteArray) (hk:v.kind=9) (hs:v.size≤1000000000) (hn:v.size<n):∃ u,Zfw n v w=some (u,ZAz v w):=by
 have hl:=Zeq v
 have e:Zbp n v.fields (fun x=>some (ZeJ x w))=some (ffI (fun x:ByteArray × Vl=>sEq x.1 w) v.fields 0):=Ztm n v.fields _ _ (fun x _=>rfl) (by omega) v.fields.length n 0 (by omega) (by omega)
 rw [Zfw,Zjt,e]
 simp only [Option.bind_some]
 rw [decide_eq_true hk,ZrN]
 cases h:ZAz v w with
 | false =>
  unfold ZAz at h
  rw [h]
  exact ⟨_,rfl⟩
 | true =>
  unfold ZAz at h
  rw [h]
  simp only [Bool.not_true,Bool.or_self,Bool.false_eq_true,if_false]
  rcases Zjs (fun x:ByteArray × Vl=>sEq x.1 w) v.fields v.fields.length 0 (by omega) with q | ⟨i,hi,q,_⟩
  ·
   have:=ZlI (fun x:ByteArray × Vl=>sEq x.1 w) v.fields
   rw [q,h] at this
   cases this
  ·
   rw [q,Zam hi]
   simp only [Option.bind_some]
   have:=v.field_size _ (List.getElem_mem hi)
   rw [Znn n _ (by omega) (by omega)]
   exact ⟨_,rfl⟩
theorem Zvr (a b:ByteArray):sEq a b=sEq b a:=by rw [Bool.eq_iff_iff,Zfe,Zfe];exact eq_comm
def Zmn (t:Ty) (k:Nat):Bool:=decide (t.min≤(k:Int))&&decide ((k:Int)≤t.max)
theorem ZnT (rec:Ty→Vl→Option Bool) (n:Nat) (t:Ty) (v:Vl) (hl:t.words.length≤1000000000):∀ (k m i:Nat),i+k=t.words.length→k<m →
  ZhZ rec n t v m i=some (((t.words.drop i).any fun x=>sEq x v.text)||(decide ((t.words.length:Int)=0)&&Zmn t v.text.size))
 | k,0,i,_,h=>absurd h (Nat.not_lt_zero _)
 | 0,m+1,i,hi,_=>by
  rw [ZhZ,Zal,decide_eq_false (by omega),List.drop_eq_nil_of_le (by omega)]
  rfl
 | k+1,m+1,i,hi,hm=>by
  have a:i<t.words.length:=by omega
  rw [ZhZ,Zal,decide_eq_true a,List.drop_eq_getElem_cons a,List.any_cons]
  simp only [if_true,Zam a,Option.bind_some]
  by_cases h:sEq t.words[i] v.text=true
  ·
   rw [if_pos h,h];rfl
  ·
   rw [if_neg h,if_pos (Zaj (by omega)),Bool.eq_false_iff.2 h,Bool.false_or]
   exact ZnT rec n t v hl k m (i+1) (by omega) (by omega)
theorem Zm9 (rec:Ty→Vl→Option Bool) (n:Nat) (t:Ty) (v:Vl) (e:Ty) (he:0<t.elem.length) (he2:idx t.elem 0=some e) (g:Vl→Bool) (hl:v.list.length≤1000000000) (hg:∀ x∈v.list,rec e x=some (g x)):∀ (k m i:Nat),i+k=v.list.length→k<m →
  ZhA rec n t v m i=some ((v.list.drop i).all g&&Zmn t v.list.length)
 | k,0,i,_,h=>absurd h (Nat.not_lt_zero _)
 | 0,m+1,i,hi,_=>by
  rw [ZhA,Zal,decide_eq_false (by omega),List.drop_eq_nil_of_le (by omega)]
  rfl
 | k+1,m+1,i,hi,hm=>by
  have a:i<v.list.length:=by omega
  rw [ZhA,Zal,decide_eq_true a,List.drop_eq_getElem_cons a,List.all_cons]
  simp only [if_true]
  rw [if_neg (by rw [decide_eq_true_eq];omega)]
  simp only [he2,Zam a,Option.bind_some,hg _ (List.getElem_mem a)]
  cases h:g v.list[i] with
  | false=>rfl
  | true =>
   simp only [Bool.not_true,Bool.false_eq_true,if_false,Bool.true_and]
   rw [if_pos (Zaj (by omega))]
   exact Zm9 rec n t v e he he2 g hl hg k m (i+1) (by omega) (by omega)
def Zsn (v:Vl) (x:TF):Bool:=(!ZAz v x.2.1)&&(!(decide (x.2.2.1=2)))
theorem Zm4 (rec:Ty→Vl→Option Bool) (n:Nat) (t:Ty) (v:Vl) (hk:v.kind=9) (hv:v.fields.length≤1000000000) (hn:v.fields.length<n) (hl:t.fields.length≤1000000000):∀ (k m i:Nat),i+k=t.fields.length→k<m →
  Zee rec n t v m i=some (!(t.fields.drop i).any (Zsn v))
 | k,0,i,_,h=>absurd h (Nat.not_lt_zero _)
 | 0,m+1,i,hi,_=>by
  rw [Zee,Zal,decide_eq_false (by omega),List.drop_eq_nil_of_le (by omega)]
  rfl
 | k+1,m+1,i,hi,hm=>by
  have a:i<t.fields.length:=by omega
  have ih:=Zm4 rec n t v hk hv hn hl k m (i+1) (by omega) (by omega)
  rw [Zee,Zal,decide_eq_true a,List.drop_eq_getElem_cons a,List.any_cons]
  simp only [if_true,Zam a,Option.bind_some,ZvD n v _ hk hv hn,ZrN]
  rw [if_pos (Zaj (by omega))]
  unfold Zsn ZAz
  by_cases h:t.fields[i].2.2.1=2
  ·
   rw [decide_eq_true h]
   simp only [Bool.not_true,Bool.false_eq_true,if_false,Bool.and_false,Bool.false_or]
   exact ih
  ·
   rw [decide_eq_false h]
   simp only [Bool.not_false,if_true,Bool.and_true]
   cases h2:(v.fields.any fun x=>sEq x.1 t.fields[i].2.1) with
   | false=>rfl
   | true =>
    simp only [Bool.not_true,Bool.false_eq_true,if_false,Bool.false_or]
    exact ih
theorem Zs4 (r1 r2:Ty→Vl→Option Bool) (n:Nat) (t:Ty) (v:Vl) (hn:t.size+1450000≤n) (hn2:v.size<n) (hs:v.size≤1000000000) (ht:t.small) (tk:t.kind=9) (vk:v.kind=9)
  (hr:∀ p∈t.fields,∀ q∈v.fields,∃ c,r1 p.2.2.2.1 q.2=some c∧r2 p.2.2.2.1 q.2=some c):∀ (k m i:Nat),i+k=v.fields.length→k<m→∃ b,Zga r1 n t v m i=some b∧ZcL r2 n t v m i=some b
 | k,0,i,_,h=>absurd h (Nat.not_lt_zero _)
 | 0,m+1,i,hi,_=>by
  have d:=Zeq v
  have o:=t.lens.2
  have g:=ht.1
  have e:=Zq1 n t.fields (fun x=>ZhI n x v) (Zsn v) (fun x _=>by
   obtain ⟨u,hu⟩:=Zvo n v x.2.1 vk hs hn2
   rw [ZhI,hu];rfl) (by omega) (by omega)
  have e2:=Zm4 r2 n t v vk (by omega) (by omega) (by omega) t.fields.length n 0 (by omega) (by omega)
  rw [List.drop_zero] at e2
  refine ⟨!t.fields.any (Zsn v),?_,?_⟩
  ·
   rw [Zga,Zal,decide_eq_false (by omega)]
   simp only [Bool.false_eq_true,if_false,Zk2]
   rw [e];rfl
  ·
   rw [ZcL,Zal,decide_eq_false (by omega)]
   simp only [Bool.false_eq_true,if_false,Zji]
   exact e2
 | k+1,m+1,i,hi,hm=>by
  have a:i<v.fields.length:=by omega
  have d:=Zeq v
  have o:=t.lens.2
  have g:=ht.1
  obtain ⟨b,f,l⟩:=Zs4 r1 r2 n t v hn hn2 hs ht tk vk hr k m (i+1) (by omega) (by omega)
  rw [Zga,ZcL,Zal,decide_eq_true a]
  simp only [if_true,Zam a,Option.bind_some]
  have hF:Zfj n t v.fields[i].1=(ZfY n t (fun x=>some (sEq x.2.1 v.fields[i].1))).bind fun y3=>some (y3.1,y3.2):=rfl
  rw [hF,ZjD n t _ (by omega) (by omega)]
  simp only [Option.bind_some]
  rcases Zsh n t (fun x=>sEq x.2.1 v.fields[i].1) hn ht with ⟨k1,_,_⟩ | ⟨_,⟨q1,q2⟩ | ⟨j,hj,q1,q2⟩⟩
  ·
   exact absurd tk k1
  ·
   rw [q1,q2]
   exact ⟨false,rfl,rfl⟩
  ·
   rw [q1,q2]
   simp only [Option.bind_some,Bool.not_true,Bool.false_eq_true,if_false,Zam hj]
   rw [if_neg (show ¬ decide (((j:Nat):Int)<0)=true by rw [decide_eq_true_eq];omega)]
   obtain ⟨c,c1,c2⟩:=hr _ (List.getElem_mem hj) _ (List.getElem_mem a)
   rw [c1,c2]
   simp only [Option.bind_some]
   cases c with
   | false=>exact ⟨false,rfl,rfl⟩
   | true =>
    simp only [Bool.not_true,Bool.false_eq_true,if_false]
    rw [if_pos (Zaj (by omega)),if_pos (Zaj (by omega))]
    exact ⟨b,f,l⟩
theorem Ty.small_elem {t x:Ty} (h:t.small) (hx:x∈t.elem):x.small:=by
 obtain ⟨h1,h2,h3⟩:=h
 have a:=t.elem_size x hx
 have b:=t.depth_eq
 have c:=(ZjO t.elem (Zc3 t.elem)).1 (Nat.le_refl _) x hx
 have d:Zc3 t.elem≤Max.max (Zc3 t.elem) (Zca t.fields):=Nat.le_max_left _ _
 exact ⟨by omega,by omega,(t.ok_eq.1 h3).2.2.1 x hx⟩
theorem Ty.small_field {t:Ty} {p:TF} (h:t.small) (hx:p∈t.fields):p.2.2.2.1.small:=by
 obtain ⟨h1,h2,h3⟩:=h
 have a:=t.field_size p hx
 have b:=t.depth_eq
 have c:=(Zio t.fields (Zca t.fields)).1 (Nat.le_refl _) p hx
 have d:Zca t.fields≤Max.max (Zc3 t.elem) (Zca t.fields):=Nat.le_max_right _ _
 exact ⟨by omega,by omega,((t.ok_eq.1 h3).2.2.2 p hx).2.1⟩
theorem ZhG {t x:Ty} (h:t.Good) (hx:x∈t.elem):x.Good:=by cases h with | mk _ a b c=>exact b x hx
theorem ZcG {t:Ty} {p:TF} (h:t.Good) (hx:p∈t.fields):p.2.2.2.1.Good:=by cases h with | mk _ a b c=>exact c p hx
theorem Ziu {t:Ty} (h:t.Good):ZrI t=0:=by cases h with | mk _ a b c=>exact a
theorem ZhR {v:Vl} (h:v.Good):Zhc v=0:=by cases h with | mk _ a b=>exact a
theorem ZfQ {v x:Vl} (h:v.Good) (hx:x∈Za6 v):x.Good:=by cases h with | mk _ a b=>exact b x hx
theorem Zsw:∀ (n:Nat) (t:Ty) (v:Vl),t.size+1500000≤n→v.size+1500000≤n→v.size≤1000000000→t.small→v.ok→t.Good→v.Good→∃ b,Zfs n t v=some b∧Zcp n t v=some b
 | 0,t,v,h,_,_,_,_,_,_=>by omega
 | n+1,t,v,h1,h2,h3,ht,hv,gt,gv=>by
  obtain ⟨k1,k2,k3⟩:=ZkQ (Ziu gt)
  obtain ⟨_,u2⟩:=ZkJ (ZhR gv)
  have hl:=t.lens
  have o:=ht.1
  have r:=Zeq v
  have m:=(ZdR v).1
  have hw:=(t.ok_eq.1 ht.2.2).1
  rw [Zfs,Zpz,Zcp,ZpN]
  by_cases hk:v.kind=t.kind
  rotate_left
  ·
   rw [decide_eq_false hk,decide_eq_false (show ¬ t.kind=v.kind from fun q=>hk q.symm)]
   exact ⟨false,rfl,rfl⟩
  rw [decide_eq_true hk,decide_eq_true hk.symm]
  simp only [Bool.not_true,Bool.false_eq_true,if_false]
  have d:t.kind≠3→v.scale=t.scale:=fun q=>by rw [Ty.scale0 k2 q,Vl.scale0 u2 (by rw [hk];exact q)]
  rcases Zel k1 with tk | tk | tk | tk | tk | tk | tk | tk | tk | tk
  ·
   exact ⟨true,by simp [tk,Zb7,Zmr],by simp [tk,ZaH,Znq]⟩
  ·
   have q:=d (by omega)
   exact ⟨decide (t.min≤v.int)&&decide (v.int≤t.max),by simp [tk,Zb7,q],by simp [tk,ZaH]⟩
  ·
   exact ⟨decide (v.scale=t.scale)&&(decide (t.min≤v.int)&&decide (v.int≤t.max)),by simp [tk,Zb7,Bool.and_comm],by simp [tk,ZaH]⟩
  ·
   have e1:=Zl5 n t.words v.text (by omega) (by omega)
   have e2:=ZnT (Zcp n) n t v (by omega) t.words.length n 0 (by omega) (by omega)
   rw [List.drop_zero] at e2
   have e3:(t.words.any fun x=>sEq v.text x)=t.words.any fun x=>sEq x v.text:=by congr 1;funext x;exact Zvr _ _
   have r6:ZaH (Zcp n) n t v false=some ((t.words.any fun x=>sEq x v.text)||(decide ((t.words.length:Int)=0)&&Zmn t v.text.size)):=by
    rw [ZaH,if_neg (by decide),decide_eq_false (show ¬ t.kind=3 by omega),if_neg (by decide),decide_eq_true tk,if_pos rfl]
    exact e2
   refine ⟨_,?_,by rw [decide_eq_false (show ¬ t.kind=2 by omega),decide_eq_false (show ¬ t.kind=6 by omega),decide_eq_false (show ¬ t.kind=7 by omega)];exact r6⟩
   rw [decide_eq_false (show ¬ t.kind=2 by omega),decide_eq_false (show ¬ t.kind=6 by omega),decide_eq_false (show ¬ t.kind=7 by omega),decide_eq_false (show ¬ t.kind=3 by omega)]
   simp only [Bool.false_eq_true,if_false]
   rw [Zb7,if_neg (by decide),decide_eq_true tk,if_pos rfl]
   by_cases hw:0<t.words.length
   ·
    rw [if_pos (decide_eq_true (by omega)),e1,e3,decide_eq_false (show ¬ (t.words.length:Int)=0 by omega)]
    simp
   ·
    rw [if_neg (by rw [decide_eq_true_eq];omega),decide_eq_true (show (t.words.length:Int)=0 by omega)]
    have i:t.words=[]:=List.length_eq_zero_iff.1 (by omega)
    rw [i]
    rfl
  ·
   exact ⟨Zmn t v.text.size,by simp [tk,Zb7,Zmn],by simp [tk,ZaH,Zmn]⟩
  ·
   have q:=d (by omega)
   exact ⟨decide (t.min≤v.int)&&decide (v.int≤t.max),by simp [tk,Zb7,q],by simp [tk,ZaH]⟩
  ·
   have q:=d (by omega)
   exact ⟨decide (t.min≤v.int)&&decide (v.int≤t.max),by simp [tk,Zb7,q],by simp [tk,ZaH]⟩
  ·
   have he:0<t.elem.length:=by omega
   have f:idx t.elem 0=some t.elem[0]:=Zam he
   have hx:∀ x∈v.list,∃ b,Zfs n t.elem[0] x=some b∧Zcp n t.elem[0] x=some b:=fun x hx=>by
    have a:=t.elem_size _ (List.getElem_mem he)
    have b:=v.list_size x hx
    exact Zsw n _ x (by omega) (by omega) (by omega) (Ty.small_elem ht (List.getElem_mem he)) ((v.ok_eq.1 hv).2.1 x hx) (ZhG gt (List.getElem_mem he)) (ZfQ gv (by rw [Za6,if_pos (.inl (by omega))];exact hx))
   let g:Vl→Bool:=fun x=>(Zfs n t.elem[0] x).getD false
   have hg:∀ x∈v.list,Zfs n t.elem[0] x=some (g x)∧Zcp n t.elem[0] x=some (g x):=fun x q=>by
    obtain ⟨b,b1,b2⟩:=hx x q
    have:g x=b:=by show (Zfs n t.elem[0] x).getD false=b;rw [b1];rfl
    rw [this];exact ⟨b1,b2⟩
   have e2:=Zm9 (Zcp n) n t v _ he f g (by omega) (fun x q=>(hg x q).2) v.list.length n 0 (by omega) (by omega)
   rw [List.drop_zero] at e2
   have e1:=Zp9 n v.list (fun x=>ZhX (Zfs n) x t) (fun x => !g x) (fun x q=>by rw [ZhX,f,Option.bind_some,(hg x q).1];rfl) (by omega) (by omega)
   refine ⟨v.list.all g&&Zmn t v.list.length,?_,by simp only [tk,ZaH];exact e2⟩
   simp only [tk,Zb7]
   simp only [show decide ((8:Int)=2)=false from rfl,show decide ((8:Int)=6)=false from rfl,show decide ((8:Int)=7)=false from rfl,show decide ((8:Int)=3)=false from rfl,show decide ((8:Int)=4)=false from rfl,show decide ((8:Int)=5)=false from rfl,decide_true,Bool.false_eq_true,if_false,if_true]
   rw [e1]
   unfold Zmn
   cases hr:decide (t.min≤(v.list.length:Int))&&decide ((v.list.length:Int)≤t.max) with
   | false=>simp
   | true =>
    simp only [if_true,Option.bind_some,Bool.and_true]
    congr 1
    rw [List.not_any_eq_all_not]
    simp
  ·
   have e:∃ b,Zga (Zfs n) n t v n 0=some b∧ZcL (Zcp n) n t v n 0=some b :=
    Zs4 (Zfs n) (Zcp n) n t v (by omega) (by omega) h3 ht tk (by omega) (fun p hp q hq=>by
     have a:=t.field_size p hp
     have b:=v.field_size q hq
     exact Zsw n _ _ (by omega) (by omega) (by omega) (Ty.small_field ht hp) ((v.ok_eq.1 hv).2.2 q hq).2 (ZcG gt hp) (ZfQ gv (by rw [Za6,if_neg (by omega),if_pos (by omega)];exact List.mem_map_of_mem hq))) v.fields.length n 0 (by omega) (by omega)
   obtain ⟨b,e1,e2⟩:=e
   exact ⟨b,by simp only [tk,Zb7];exact e1,by simp only [tk,ZaH,Zks];simp [e2]⟩
  ·
   have vk:v.kind=10:=by omega
   have l:v.list.length=1:=by
    have q:=ZhR gv
    rw [Zhc] at q
    by_cases p1:Za8 v=true
    ·
     rw [if_pos p1] at q;exact absurd q (by decide)
    rw [if_neg p1,if_neg (by omega),if_neg u2,if_neg (by omega),if_neg (by omega),if_neg (by omega),if_neg (by omega),if_neg (by omega),if_neg (by omega),if_neg (by omega),if_neg (by omega),if_neg (by omega)] at q
    by_cases p2:Zei v.text=true
    ·
     rw [if_pos p2] at q
     by_cases p3:v.list.length=0
     ·
      rw [if_pos p3] at q;exact absurd q (by decide)
     rw [if_neg p3] at q
     by_cases p4:1<v.list.length
     ·
      rw [if_pos p4] at q;exact absurd q (by decide)
     omega
    ·
     rw [if_neg p2] at q;exact absurd q (by decide)
   have hi:idx v.list 0=some v.list[0]:=Zam (k:=0) (by omega)
   have hF:Zfj n t v.text=(ZfY n t (fun x=>some (sEq x.2.1 v.text))).bind fun y3=>some (y3.1,y3.2):=rfl
   have e:∃ b,Zb7 (Zfs n) n t v false=some b∧ZaH (Zcp n) n t v false=some b:=by
    simp only [Zb7,ZaH,tk,hF,ZjD n t _ (show t.fields.length≤1000000000 by omega) (show t.fields.length<n by omega),Option.bind_some]
    rcases Zsh n t (fun x=>sEq x.2.1 v.text) (by omega) ht with ⟨_,k1,_⟩ | ⟨_,⟨q1,q2⟩ | ⟨j,hj,q1,q2⟩⟩
    ·
     exact absurd tk k1
    ·
     rw [q1,q2];exact ⟨false,rfl,rfl⟩
    ·
     have a:=t.field_size _ (List.getElem_mem hj)
     have b:=v.list_size _ (List.getElem_mem (show 0<v.list.length by omega))
     obtain ⟨c,c1,c2⟩:=Zsw n t.fields[j].2.2.2.1 v.list[0] (by omega) (by omega) (by omega) (Ty.small_field ht (List.getElem_mem hj)) ((v.ok_eq.1 hv).2.1 _ (List.getElem_mem _)) (ZcG gt (List.getElem_mem hj)) (ZfQ gv (by rw [Za6,if_pos (.inr vk)];exact List.getElem_mem _))
     refine ⟨c,?_,?_⟩
     ·
      rw [q2];simp [hi,c1]
     ·
      rw [q1];simp [Zam hj,hi,c2]
   obtain ⟨b,e1,e2⟩:=e
   exact ⟨b,by simp only [tk];exact e1,by simp only [tk];exact e2⟩
def Zoq (k:Int) (x:TF):Prop:=(1≤x.2.2.1∧x.2.2.1≤3)∧(k=10→x.2.2.1=1)∧(x.2.2.1=3→x.2.2.2.2.length=1)∧(x.2.2.1≠3→x.2.2.2.2.length=0)
theorem ZtA {k:Int} {b:List TF} {x:TF} (h:Zkf k b x=0):Zoq k x:=by
 rw [Zkf] at h
 by_cases h1:Zei x.2.1=true
 rotate_left
 ·
  rw [if_neg h1] at h;exact absurd h (by decide)
 rw [if_pos h1] at h
 by_cases h2:¬ (1≤x.1∧x.1≤9999)
 ·
  rw [if_pos h2] at h;exact absurd h (by decide)
 rw [if_neg h2] at h
 by_cases h3:(b.any fun q=>Zbb q x)=true
 ·
  rw [if_pos h3] at h;exact absurd h (by decide)
 rw [if_neg h3] at h
 by_cases h4:¬ (1≤x.2.2.1∧x.2.2.1≤3)∨(k=10∧x.2.2.1≠1)
 ·
  rw [if_pos h4] at h;exact absurd h (by decide)
 rw [if_neg h4] at h
 by_cases h5:x.2.2.1=3∧x.2.2.2.2.length=0
 ·
  rw [if_pos h5] at h;exact absurd h (by decide)
 rw [if_neg h5] at h
 by_cases h6:1<x.2.2.2.2.length∨(x.2.2.1≠3∧0<x.2.2.2.2.length)
 ·
  rw [if_pos h6] at h;exact absurd h (by decide)
 unfold Zoq
 omega
theorem ZnE {k:Int}:∀ (l b:List TF),Zgb k b l=0→∀ x∈l,Zoq k x
 | [],_,_,x,hx=>by simp at hx
 | y::r,b,h,x,hx=>by
  rw [Zgb] at h
  by_cases q:Zkf k b y=0
  ·
   rw [if_pos q] at h
   rcases List.mem_cons.1 hx with rfl | hx
   ·
    exact ZtA q
   ·
    exact ZnE r _ h x hx
  ·
   rw [if_neg q] at h;exact absurd h q
theorem ZtE {t:Ty} (h:¬ ZaX t=true):(t.kind≠8→t.elem.length=0)∧(t.kind≠9→t.kind≠10→t.fields.length=0):=by
 refine ⟨fun k=>?_,fun k1 k2=>?_⟩
 ·
  rcases Nat.eq_zero_or_pos t.elem.length with e | e
  ·
   exact e
  ·
   exfalso;apply h;rw [ZaX,decide_eq_false k,decide_eq_true (show 0<(t.elem.length:Int) by omega)];simp
 ·
  rcases Nat.eq_zero_or_pos t.fields.length with e | e
  ·
   exact e
  ·
   exfalso;apply h;rw [ZaX,decide_eq_false k1,decide_eq_false k2,decide_eq_true (show 0<(t.fields.length:Int) by omega)];simp
theorem ZoA {t:Ty} (h:ZrI t=0):¬ (t.kind<1∨10<t.kind)∧(t.kind≠8→t.elem.length=0)∧(t.kind=8→t.elem.length=1∧0≤t.min∧t.min≤256)∧(t.kind≠9→t.kind≠10→t.fields.length=0)∧(t.kind=10→0<t.fields.length)∧∀ x∈t.fields,Zoq t.kind x:=by
 obtain ⟨k1,k2,k3⟩:=ZkQ h
 obtain ⟨n1,n2⟩:=ZtE k2
 rw [ZrI,if_neg k1,if_neg k2] at h
 by_cases h3:t.kind=4∧0<t.words.length
 ·
  have:=n2 (by omega) (by omega)
  have hf:t.fields=[]:=List.length_eq_zero_iff.1 this
  exact ⟨k1,n1,by omega,n2,by omega,by rw [hf];simp⟩
 rw [if_neg h3] at h
 by_cases h4:((2≤t.kind∧t.kind≤8)∧Zbq t (Zat t.kind).1 (Zat t.kind).2=false)∨¬ (0≤t.scale∧t.scale≤12)
 ·
  rw [if_pos h4] at h;exact absurd h (by decide)
 rw [if_neg h4,if_neg k3] at h
 by_cases h6:1<t.elem.length
 ·
  rw [if_pos h6] at h;exact absurd h (by decide)
 rw [if_neg h6] at h
 by_cases h7:64<t.fields.length
 ·
  rw [if_pos h7] at h;exact absurd h (by decide)
 rw [if_neg h7] at h
 refine ⟨k1,n1,fun k8=>?_,n2,by omega,ZnE _ _ h⟩
 have hb:Zbq t (Zat t.kind).1 (Zat t.kind).2=true:=by
  cases q:Zbq t (Zat t.kind).1 (Zat t.kind).2
  ·
   exact absurd (Or.inl ⟨by omega,q⟩) h4
  ·
   rfl
 have e1:(Zat t.kind)=(0,256):=by rw [k8];rfl
 rw [e1,Zbq] at hb
 simp only [Bool.and_eq_true,decide_eq_true_eq] at hb
 omega
theorem ZBg (n:Nat) (t:Ty) (v:Vl) (h1:t.size+1500000≤n) (h2:v.size+1500000≤n) (h3:v.size<1048576) (ht:t.small) (hv:v.ok) (gt:t.Good):∃ b,ZgP n t v=some b∧Zge n t v=some b:=by
 rw [ZgP,Zge,ZqZ n v (by omega) h3 hv,ZlN n v (by omega) (by omega) hv]
 simp only [Option.bind_some]
 by_cases h:Zp2 v=0
 ·
  rw [decide_eq_true h]
  simp only [if_true]
  obtain ⟨b,b1,b2⟩:=Zsw n t v h1 h2 (by omega) ht hv gt (Zh4 h)
  exact ⟨b,by rw [b1];rfl,by rw [b2];rfl⟩
 ·
  rw [decide_eq_false h]
  exact ⟨false,rfl,rfl⟩
def ZxU (t:List Ty) (left:Int) (a b:Option (Int × Int)):Prop :=
 ∃ e l1 l2,a=some (e,l1)∧b=some (e,l2)∧(e=0→l1=l2∧0≤l1∧l1≤left∧∀ x∈t,x.Good)
theorem ZoC (r1 r2:Ty→Int→Int→Option (Int × Int)) (n:Nat) (t:Ty) (lv:Int) (hlv:0≤lv∧lv≤9) (hn:t.size+2600000≤n) (ht:t.small) (hk:t.kind=9∨t.kind=10) (hg:∀ x∈t.fields,Zoq t.kind x)
  (hr:∀ p∈t.fields,∀ left,0≤left→left≤4096→ZxU [p.2.2.2.1] left (r1 p.2.2.2.1 (lv+1) left) (r2 p.2.2.2.1 (lv+1) left)):∀ (k m i:Nat) (left:Int),i+k=t.fields.length→k<m→0≤left→left≤4096 →
  ZxU ((t.fields.drop i).map fun p=>p.2.2.2.1) left (ZbW r1 n t lv (t.fields.map fun p=>p.2.2.2.1) m i left) (Zb6 r2 n t lv m i left)
 | k,0,i,_,_,h,_,_=>absurd h (Nat.not_lt_zero _)
 | 0,m+1,i,left,hi,_,h1,h2=>by
  rw [ZbW,Zb6,Zal,Zal,decide_eq_false (show ¬ i<(t.fields.map fun p=>p.2.2.2.1).length by rw [List.length_map];omega),decide_eq_false (show ¬ i<t.fields.length by omega)]
  refine ⟨0,left,left,rfl,rfl,fun _=>⟨rfl,h1,Int.le_refl _,?_⟩⟩
  rw [List.drop_eq_nil_of_le (by omega)];simp
 | k+1,m+1,i,left,hi,hm,h1,h2=>by
  have c:i<t.fields.length:=by omega
  have g:=ht.1
  have hl:=t.lens
  have d:i<(t.fields.map fun p=>p.2.2.2.1).length:=by rw [List.length_map];exact c
  rw [ZbW,Zb6,Zal,Zal,decide_eq_true d,decide_eq_true c]
  simp only [if_true,Zam d,Zam c,Option.bind_some,List.getElem_map]
  rw [if_pos (by unfold I64;omega),if_pos (by unfold I64;omega)]
  obtain ⟨e,l1,l2,e1,e2,e3⟩:=hr _ (List.getElem_mem c) left h1 h2
  rw [e1,e2]
  simp only [Option.bind_some]
  by_cases h0:e=0
  rotate_left
  ·
   rw [decide_eq_false h0]
   exact ⟨e,l1,l2,rfl,rfl,fun q=>absurd q h0⟩
  obtain ⟨rfl,w1,w2,w3⟩:=e3 h0
  have gx:(t.fields[i].2.2.2.1).Good:=w3 _ (by simp)
  rw [decide_eq_true h0]
  simp only [Bool.not_true,Bool.false_eq_true,if_false]
  rw [if_pos (Zaj (by omega)),if_pos (Zaj (by omega))]
  obtain ⟨e',m1,m2,q1,q2,q3⟩:=ZoC r1 r2 n t lv hlv hn ht hk hg hr k m (i+1) l1 (by omega) (by omega) w1 (by omega)
  have fin:ZxU ((t.fields.drop i).map fun p=>p.2.2.2.1) left (ZbW r1 n t lv (t.fields.map fun p=>p.2.2.2.1) m ((i:Int)+1) l1) (Zb6 r2 n t lv m ((i:Int)+1) l1):=by
   refine ⟨e',m1,m2,q1,q2,fun q=>?_⟩
   obtain ⟨z1,z2,z3,z4⟩:=q3 q
   refine ⟨z1,z2,by omega,fun x hx=>?_⟩
   rw [List.drop_eq_getElem_cons c,List.map_cons] at hx
   rcases List.mem_cons.1 hx with rfl | hx
   ·
    exact gx
   ·
    exact z4 x hx
  obtain ⟨g1,g2,g3,g4⟩:=hg _ (List.getElem_mem c)
  by_cases n3:t.fields[i].2.2.1=3
  ·
   have k9:t.kind=9:=by
    rcases hk with hk | hk
    ·
     exact hk
    ·
     have:=g2 hk;omega
   have hd:=g3 n3
   have f:idx t.fields[i].2.2.2.2 0=some t.fields[i].2.2.2.2[0]:=Zam (k:=0) (by omega)
   obtain ⟨_,o2,o3,o4⟩:=(t.ok_eq.1 ht.2.2).2.2.2 _ (List.getElem_mem c)
   obtain ⟨v1,v2,v3⟩:=o4 _ (List.getElem_mem (show 0<t.fields[i].2.2.2.2.length by omega))
   have a:=t.field_size _ (List.getElem_mem c)
   obtain ⟨b,b1,b2⟩:=ZBg n t.fields[i].2.2.2.1 t.fields[i].2.2.2.2[0] (by omega) (by omega) (by omega) (Ty.small_field ht (List.getElem_mem c)) v3 gx
   rw [decide_eq_true k9,decide_eq_true n3,decide_eq_true (show 0<(t.fields[i].2.2.2.2.length:Int) by omega)]
   simp only [if_true,f,Option.bind_some,b1,b2]
   cases b with
   | false=>exact ⟨18,l1,l1,rfl,rfl,fun q=>absurd q (by decide)⟩
   | true=>exact fin
  ·
   have hd:=g4 n3
   rw [decide_eq_false n3,decide_eq_false (show ¬ 0<(t.fields[i].2.2.2.2.length:Int) by omega)]
   simp only [Bool.false_eq_true,if_false,ite_self]
   exact fin
theorem Ty.fit_of {t:Ty} {n:Nat} (ht:t.small) (hn:t.size+2600000≤n):t.fit n:=by
 have hl:=t.lens
 obtain ⟨h1,_,h3⟩:=ht
 obtain ⟨o1,o2,o3,o4⟩:=t.ok_eq.1 h3
 exact ⟨by omega,by omega,by omega,by omega,by omega,by omega,o2,fun p hp=>(o4 p hp).1⟩
theorem Zkw:∀ (n:Nat) (t:Ty) (lv left:Int),t.size+2600001≤n→t.small→0≤lv→lv≤9→0≤left→left≤4096→ZxU [t] left (ZgT n t lv left) (Ze1 n t lv left)
 | 0,t,_,_,h,_,_,_,_,_=>by omega
 | n+1,t,lv,left,h,ht,l1,l2,h1,h2=>by
  have hl:=t.lens
  have i:=ht.1
  have b:=Ty.fit_of ht (show t.size+2600000≤n by omega)
  rw [ZgT,ZkB,Ze1,Zlz]
  by_cases c1:left=0
  ·
   rw [decide_eq_true c1]
   exact ⟨9,left,left,rfl,rfl,fun q=>absurd q (by decide)⟩
  rw [decide_eq_false c1]
  simp only [Bool.false_eq_true,if_false]
  have hI:I64 (left-1):=by unfold I64;omega
  by_cases c2:8<lv
  ·
   rw [decide_eq_true c2]
   simp only [if_true,if_pos hI]
   exact ⟨23,left,left-1,rfl,rfl,fun q=>absurd q (by decide)⟩
  rw [decide_eq_false c2]
  simp only [Bool.false_eq_true,if_false,if_pos hI]
  rw [ZAq n t b,Ztp n t b]
  simp only [Option.bind_some]
  by_cases c3:ZrI t=0
  rotate_left
  ·
   rw [decide_eq_false c3]
   exact ⟨ZrI t,left-1,left-1,rfl,rfl,fun q=>absurd q c3⟩
  obtain ⟨f1,f2,f3,f4,f5,f6⟩:=ZoA c3
  rw [decide_eq_true c3]
  simp only [Bool.not_true,Bool.false_eq_true,if_false]
  rw [ZvC n t (by omega) (by omega)]
  simp only [Option.bind_some]
  by_cases k8:t.kind=8
  ·
   obtain ⟨z1,_,_⟩:=f3 k8
   obtain ⟨e,he⟩:∃ e,t.elem=[e]:=List.length_eq_one_iff.1 z1
   have hm:e∈t.elem:=by rw [he];simp
   have j:=t.elem_size e hm
   obtain ⟨n',rfl⟩:∃ k,n=k+2:=⟨n-2,by omega⟩
   obtain ⟨e1,m1,m2,q1,q2,q3⟩:=Zkw (n'+2) e (lv+1) (left-1) (by omega) (Ty.small_elem ht hm) (by omega) (by omega) (by omega) (by omega)
   have a:t.fields=[]:=List.length_eq_zero_iff.1 (f4 (by omega) (by omega))
   have d:I64 (lv+1):=by unfold I64;omega
   rw [decide_eq_true k8,if_pos rfl,Zti,if_pos k8,he,show idx [e] 0=some e from rfl]
   simp only [Option.bind_some]
   rw [if_pos d,q2,ZbW,if_pos (by simp),show idx [e] 0=some e from rfl]
   simp only [Option.bind_some]
   rw [if_pos d,q1]
   simp only [Option.bind_some]
   by_cases c4:e1=0
   ·
    obtain ⟨w1,w2,w3,w4⟩:=q3 c4
    subst c4
    rw [decide_eq_false (show ¬ t.kind=9 by omega)]
    simp only [decide_true,Bool.not_true,Bool.false_eq_true,if_false]
    rw [if_pos (by decide),ZbW,if_neg (by simp)]
    refine ⟨0,m1,m2,rfl,rfl,fun _=>⟨w1,w2,by omega,fun x hx=>?_⟩⟩
    rw [List.mem_singleton.1 hx]
    exact .mk t c3 (fun y hy=>by rw [he] at hy;exact w4 y hy) (fun y hy=>by rw [a] at hy;simp at hy)
   ·
    rw [decide_eq_false c4]
    exact ⟨e1,m1,m2,rfl,rfl,fun q=>absurd q c4⟩
  ·
   rw [decide_eq_false k8,if_neg (by decide),Zti,if_neg k8]
   have g:t.elem=[]:=List.length_eq_zero_iff.1 (f2 k8)
   by_cases k9:t.kind=9∨t.kind=10
   ·
    rw [if_pos k9]
    obtain ⟨e1,m1,m2,q1,q2,q3⟩:=ZoC (ZgT n) (Ze1 n) n t lv ⟨l1,by omega⟩ (by omega) ht k9 f6 (fun p hp c w1 w2=>by
     have:=t.field_size p hp
     exact Zkw n p.2.2.2.1 (lv+1) c (by omega) (Ty.small_field ht hp) (by omega) (by omega) w1 w2) t.fields.length n 0 (left-1) (by omega) (by omega) (by omega) (by omega)
    refine ⟨e1,m1,m2,q1,q2,fun q=>?_⟩
    obtain ⟨w1,w2,w3,w4⟩:=q3 q
    rw [List.drop_zero] at w4
    refine ⟨w1,w2,by omega,fun x hx=>?_⟩
    rw [List.mem_singleton.1 hx]
    exact .mk t c3 (fun y hy=>by rw [g] at hy;simp at hy) (fun y hy=>w4 _ (List.mem_map_of_mem (f:=fun p:TF=>p.2.2.2.1) hy))
   ·
    rw [if_neg k9]
    have a:t.fields=[]:=List.length_eq_zero_iff.1 (f4 (by omega) (by omega))
    obtain ⟨n',rfl⟩:∃ k,n=k+1:=⟨n-1,by omega⟩
    rw [ZbW,if_neg (by simp),Zb6,if_neg (by simp [a])]
    refine ⟨0,left-1,left-1,rfl,rfl,fun _=>⟨rfl,by omega,by omega,fun x hx=>?_⟩⟩
    rw [List.mem_singleton.1 hx]
    exact .mk t c3 (fun y hy=>by rw [g] at hy;simp at hy) (fun y hy=>by rw [a] at hy;simp at hy)
theorem ZjW:∀ (k:Nat) (v:Vl) (lv:Nat),v.size≤k→(Zha lv v).length≤v.size
 | 0,v,lv,h=>absurd h (by have:=v.size_eq;omega)
 | k+1,v,lv,h=>by
  have h1:=Zql v
  rw [Zhp,List.length_cons,List.length_flatMap]
  have:((Za6 v).map fun x=>(Zha (lv+1) x).length).sum≤((Za6 v).map Vl.size).sum:=by
   have hall:∀ x∈Za6 v,(Zha (lv+1) x).length≤x.size:=fun x hx=>ZjW k x (lv+1) (by have:=Zd4 hx;omega)
   clear h1
   generalize Za6 v=l at hall
   induction l with
   | nil=>simp
   | cons a r ih =>
    have:=hall a (List.mem_cons_self ..)
    have:=ih fun x hx=>hall x (List.mem_cons_of_mem _ hx)
    simp only [List.map_cons,List.sum_cons]
    omega
  omega
theorem Zsv:∀ (l:List (Nat × Vl)) (c:Int),0≤c→c+l.length≤1000000000→Zgj l c=some (c+l.length)
 | [],c,_,_=>by rw [Zgj];simp
 | p::r,c,h1,h2=>by
  rw [List.length_cons] at h2
  rw [Zgj,if_pos (by unfold I64;omega),Zsv r (c+1) (by omega) (by omega),List.length_cons]
  congr 1
  omega
theorem Ztw (v:Vl) (hs:v.size≤1048576):ZjC v=some ((Zha 1 v).length:Int):=by
 have:=ZjW v.size v 1 (Nat.le_refl _)
 rw [ZjC,if_pos ⟨by have:=v.depth_size;omega,Ze9 _ v (Nat.le_refl _) (by omega)⟩,Zsv _ 0 (by omega) (by omega)]
 congr 1
 omega
theorem ZqU (rec:Vl→Option Int) (n:Nat) (ys:List Vl) (f:Vl→Nat) (hr:∀ x∈ys,rec x=some (f x:Int)) (hl:ys.length≤2000000):∀ (k m i c:Nat),i+k=ys.length→k<m→c+((ys.drop i).map f).sum≤2000000→ZhF rec n ys m (c:Int) i=some ((c+((ys.drop i).map f).sum:Nat):Int)
 | k,0,i,c,_,h,_=>absurd h (Nat.not_lt_zero _)
 | 0,m+1,i,c,hi,_,_=>by
  rw [ZhF,Zal,decide_eq_false (show ¬ i<ys.length by omega),List.drop_eq_nil_of_le (by omega)]
  rfl
 | k+1,m+1,i,c,hi,hm,hc=>by
  have a:i<ys.length:=by omega
  rw [List.drop_eq_getElem_cons a,List.map_cons,List.sum_cons] at hc
  rw [ZhF,Zal,decide_eq_true a]
  simp only [if_true,Zam a,Option.bind_some,hr _ (List.getElem_mem a)]
  rw [if_pos (by unfold I64;omega),if_pos (Zaj (by omega)),List.drop_eq_getElem_cons a,List.map_cons,List.sum_cons,←Nat.add_assoc]
  exact ZqU rec n ys f hr hl k m (i+1) (c+f ys[i]) (by omega) (by omega) (by omega)
theorem ZqL:∀ (n:Nat) (v:Vl) (lv:Nat),v.size<n→v.size≤1048576→Zjz n v=some ((Zha lv v).length:Int)
 | 0,v,lv,h,_=>absurd h (Nat.not_lt_zero _)
 | n+1,v,lv,h,hs=>by
  have h1:=ZjW v.size v lv (Nat.le_refl _)
  have hp:=(ZdR v).2.2
  have e:=ZqU (Zjz n) n (Za6 v) (fun x=>(Zha (lv+1) x).length) (fun x hx=>ZqL n x (lv+1) (by have:=Zd4 hx;omega) (by have:=Zd4 hx;omega)) (by omega) (Za6 v).length n 0 1 (by omega) (by omega)
  rw [Zhp,List.length_cons,List.length_flatMap] at h1
  rw [List.drop_zero] at e
  have e2:=e (by omega)
  rw [Zjz,Zqv,Zoi n v (by omega) (by omega),Option.bind_some,Zhp,List.length_cons,List.length_flatMap,Nat.add_comm]
  exact e2
def RL (a b:Int):Prop:=a=b∨(4096<a∧4096<b)
def LB (a b:Int):Prop:=1≤a∧1≤b∧a≤4097∧b≤5000∧RL a b
theorem ZsR {a b:Int} (h1:1≤a) (h2:1≤b) (h:RL a b):LB (if 4097<a then 4097 else a) (if 5000<b then 5000 else b):=by
 unfold LB RL at *
 split<;>split<;>omega
theorem Zod (r1 r2:Ty→Option Int) (n:Nat) (t:Ty) (hn:t.size+2600000≤n) (ht:t.small) (hk:t.kind=9) (hg:∀ x∈t.fields,Zoq t.kind x)
  (hr:∀ p∈t.fields,∃ a b,r1 p.2.2.2.1=some a∧r2 p.2.2.2.1=some b∧LB a b):∀ (k m i:Nat) (a b:Int),i+k=t.fields.length→k<m→1≤a→1≤b→a≤2000000*(i+1)→b≤2000000*(i+1)→RL a b →
  ∃ a' b',Zbl r1 n t m a i=some a'∧Zb4 r2 n t m b i=some b'∧LB a' b'
 | k,0,i,_,_,_,h,_,_,_,_,_=>absurd h (Nat.not_lt_zero _)
 | 0,m+1,i,a,b,hi,_,h1,h2,_,_,h=>by
  rw [Zbl,Zb4,Zal,decide_eq_false (show ¬ i<t.fields.length by omega)]
  exact ⟨_,_,rfl,rfl,ZsR h1 h2 h⟩
 | k+1,m+1,i,a,b,hi,hm,h1,h2,h3,h4,h=>by
  have e:i<t.fields.length:=by omega
  have g:=ht.1
  have hl:=t.lens
  rw [Zbl,Zb4,Zal,decide_eq_true e,decide_eq_true hk]
  simp only [if_true,Bool.true_or,Bool.and_self,Zam e,Option.bind_some]
  have go:∀ (c d:Int),1≤c→1≤d→c≤2000000*((i:Int)+1+1)→d≤2000000*((i:Int)+1+1)→RL c d→∃ a' b',Zcy r1 n (Zbl r1 n t m) i c=some a'∧Ze8 r2 n (Zb4 r2 n t m) i d=some b'∧LB a' b':=fun c d q1 q2 q3 q4 q5=>by
   rw [Zcy,Ze8,if_pos (Zaj (by omega)),if_pos (Zaj (by omega))]
   exact Zod r1 r2 n t hn ht hk hg hr k m (i+1) c d (by omega) (by omega) q1 q2 (by push_cast;exact q3) (by push_cast;exact q4) q5
  obtain ⟨g1,g2,g3,g4⟩:=hg _ (List.getElem_mem e)
  by_cases n1:t.fields[i].2.2.1=1
  ·
   obtain ⟨c,d,e1,e2,p1,p2,p3,p4,p5⟩:=hr _ (List.getElem_mem e)
   rw [decide_eq_true n1]
   simp only [if_true,e1,e2,Option.bind_some]
   rw [if_pos (by unfold I64;omega),if_pos (by unfold I64;omega)]
   exact go _ _ (by omega) (by omega) (by omega) (by omega) (by unfold RL at *; omega)
  rw [decide_eq_false n1]
  simp only [Bool.false_eq_true,if_false]
  by_cases n3:t.fields[i].2.2.1=3
  ·
   have hd:=g3 n3
   have f:idx t.fields[i].2.2.2.2 0=some t.fields[i].2.2.2.2[0]:=Zam (k:=0) (by omega)
   obtain ⟨_,o2,o3,o4⟩:=(t.ok_eq.1 ht.2.2).2.2.2 _ (List.getElem_mem e)
   obtain ⟨v1,v2,v3⟩:=o4 _ (List.getElem_mem (show 0<t.fields[i].2.2.2.2.length by omega))
   have hp:=ZjW _ t.fields[i].2.2.2.2[0] 1 (Nat.le_refl _)
   rw [decide_eq_true n3]
   simp only [if_true,f,Option.bind_some,Ztw _ (show t.fields[i].2.2.2.2[0].size≤1048576 by omega),ZqL n t.fields[i].2.2.2.2[0] 1 (by omega) (by omega)]
   rw [if_pos (by unfold I64;omega),if_pos (by unfold I64;omega)]
   exact go _ _ (by omega) (by omega) (by omega) (by omega) (by unfold RL at *; omega)
  ·
   rw [decide_eq_false n3]
   simp only [Bool.false_eq_true,if_false]
   exact go a b h1 h2 (by omega) (by omega) h
theorem ZBS {m a b:Int} (h1:1≤m) (h2:m≤256) (h:LB a b):a≤m*a∧b≤m*b∧m*a≤256*a∧m*b≤256*b∧RL (1+m*a) (1+m*b):=by
 obtain ⟨p1,p2,p3,p4,p5⟩:=h
 have q1:0≤(m-1)*a:=Int.mul_nonneg (by omega) (by omega)
 have q2:0≤(m-1)*b:=Int.mul_nonneg (by omega) (by omega)
 have q3:0≤(256-m)*a:=Int.mul_nonneg (by omega) (by omega)
 have q4:0≤(256-m)*b:=Int.mul_nonneg (by omega) (by omega)
 rw [Int.sub_mul] at q1 q2 q3 q4
 refine ⟨by omega,by omega,by omega,by omega,?_⟩
 rcases p5 with rfl | p5
 ·
  exact .inl rfl
 ·
  exact .inr (by omega)
theorem ZiC:∀ (n:Nat) (t:Ty),t.size+2600001≤n→t.small→t.Good→∃ a b,Zdh n t=some a∧ZgI n t=some b∧LB a b
 | 0,t,h,_,_=>by omega
 | n+1,t,h,ht,gt=>by
  have hl:=t.lens
  have m:=ht.1
  obtain ⟨f1,f2,f3,f4,f5,f6⟩:=ZoA (Ziu gt)
  rw [Zdh,ZgG,ZgI,Zog]
  have one:LB (if (4097:Int)<1 then 4097 else 1) (if (5000:Int)<1 then 5000 else 1):=ZsR (by decide) (by decide) (.inl rfl)
  have f:t.fields.length=0→∀ c,ZfI (ZgI n) n t c=some (if 5000<c then 5000 else c):=fun q c=>by
   obtain ⟨n',rfl⟩:∃ k,n=k+1:=⟨n-1,by omega⟩
   rw [ZfI,Zb4,q];rfl
  by_cases k8:t.kind=8
  ·
   obtain ⟨z1,z2,z3⟩:=f3 k8
   have g:=f4 (by omega) (by omega)
   have l:idx t.elem 0=some t.elem[0]:=Zam (k:=0) (by omega)
   rw [decide_eq_true k8]
   simp only [if_true,Bool.true_and]
   by_cases hm:0<t.min
   ·
    have e:=List.getElem_mem (show 0<t.elem.length by omega)
    have:=t.elem_size _ e
    obtain ⟨a,b,e1,e2,hb⟩:=ZiC n t.elem[0] (by omega) (Ty.small_elem ht e) (ZhG gt e)
    obtain ⟨q1,q2,q3,q4,q5⟩:=ZBS (show 1≤t.min by omega) z3 hb
    obtain ⟨p1,p2,p3,p4,_⟩:=hb
    rw [decide_eq_true hm]
    simp only [if_true,l,Option.bind_some,e1,e2]
    rw [if_pos (by unfold I64;omega),if_pos (by unfold I64;omega),if_pos (by unfold I64;omega),if_pos (by unfold I64;omega),f g]
    exact ⟨_,_,rfl,rfl,ZsR (by omega) (by omega) q5⟩
   ·
    rw [decide_eq_false hm]
    simp only [Bool.false_eq_true,if_false]
    rw [f g]
    exact ⟨_,_,rfl,rfl,one⟩
  rw [decide_eq_false k8]
  simp only [Bool.false_eq_true,if_false,Bool.false_and]
  by_cases k10:t.kind=10
  ·
   have hf:=f5 k10
   have d:=List.getElem_mem hf
   have i:idx t.fields 0=some t.fields[0]:=Zam (k:=0) hf
   have j:=(f6 _ d).2.1 k10
   have:=t.field_size _ d
   obtain ⟨a,b,e1,e2,p1,p2,p3,p4,p5⟩:=ZiC n t.fields[0].2.2.2.1 (by omega) (Ty.small_field ht d) (ZcG gt d)
   obtain ⟨n',rfl⟩:∃ k,n=k+2:=⟨n-2,by omega⟩
   rw [decide_eq_true k10]
   simp only [if_true,i,Option.bind_some,e1]
   rw [if_pos (by unfold I64;omega),ZfI,Zb4,if_pos (by simp;omega),i]
   simp only [Option.bind_some]
   rw [decide_eq_true j]
   simp only [if_true,e2,Option.bind_some]
   rw [if_pos (by unfold I64;omega),Ze8,if_pos (by decide),Zb4,if_neg (by simp [k10])]
   exact ⟨_,_,rfl,rfl,ZsR (by omega) (by omega) (by unfold RL at *; omega)⟩
  rw [decide_eq_false k10]
  simp only [Bool.false_eq_true,if_false]
  by_cases k9:t.kind=9
  ·
   rw [decide_eq_true k9]
   simp only [if_true,ZfI]
   exact Zod (Zdh n) (ZgI n) n t (by omega) ht k9 f6 (fun p hp=>by
    have:=t.field_size p hp
    exact ZiC n p.2.2.2.1 (by omega) (Ty.small_field ht hp) (ZcG gt hp)) t.fields.length n 0 1 1 (by omega) (by omega) (by decide) (by decide) (by decide) (by decide) (.inl rfl)
  ·
   rw [decide_eq_false k9]
   simp only [Bool.false_eq_true,if_false]
   rw [f (f4 k9 k10)]
   exact ⟨_,_,rfl,rfl,one⟩
theorem Zyw {a b c d:Int} (h:LB a b) (k:LB c d):LB (if a<c then c else a) (if b<d then d else b):=by
 unfold LB RL at *
 split<;>split<;>omega
theorem Zzq (r1 r2:Ty→Option Int) (n:Nat) (t:Ty) (hl:t.fields.length≤1000000000) (hr:∀ p∈t.fields,∃ a b,r1 p.2.2.2.1=some a∧r2 p.2.2.2.1=some b∧LB a b):∀ (k m i:Nat) (a b:Int),i+k=t.fields.length→k<m→LB a b →
  ∃ a' b',ZbO r1 n t m a i=some a'∧ZdQ r2 n t m b i=some b'∧LB a' b'
 | k,0,i,_,_,_,h,_=>absurd h (Nat.not_lt_zero _)
 | 0,m+1,i,a,b,hi,_,h=>by
  rw [ZbO,ZdQ,Zal,decide_eq_false (show ¬ i<t.fields.length by omega)]
  exact ⟨_,_,rfl,rfl,h⟩
 | k+1,m+1,i,a,b,hi,hm,h=>by
  have e:i<t.fields.length:=by omega
  obtain ⟨c,d,e1,e2,p⟩:=hr _ (List.getElem_mem e)
  rw [ZbO,ZdQ,Zal,decide_eq_true e]
  rw [if_pos rfl,if_pos rfl,Zam e,Option.bind_some,Option.bind_some,e1,e2,Option.bind_some,Option.bind_some]
  rw [if_pos (Zaj (by omega)),if_pos (Zaj (by omega))]
  exact Zzq r1 r2 n t hl hr k m (i+1) _ _ (by omega) (by omega) (Zyw h p)
theorem ZCl (r1 r2:Ty→Option Int) (n:Nat) (t:Ty) (hl:t.fields.length≤1000000000) (hn:t.fields.length<n) (hl2:t.elem.length≤1000000000) (hr:∀ p∈t.fields,∃ a b,r1 p.2.2.2.1=some a∧r2 p.2.2.2.1=some b∧LB a b)
  (hr2:∀ p∈t.elem,∃ a b,r1 p=some a∧r2 p=some b∧LB a b):∀ (k m i:Nat) (a b:Int),i+k=t.elem.length→k<m→LB a b →
  ∃ a' b',ZbV r1 n t m a i=some a'∧Zet r2 n t m b i=some b'∧LB a' b'
 | k,0,i,_,_,_,h,_=>absurd h (Nat.not_lt_zero _)
 | 0,m+1,i,a,b,hi,_,h=>by
  rw [ZbV,Zet,Zal,decide_eq_false (show ¬ i<t.elem.length by omega)]
  simp only [Bool.false_eq_true,if_false,Zd7,Zj9]
  exact Zzq r1 r2 n t hl hr t.fields.length n 0 a b (by omega) hn h
 | k+1,m+1,i,a,b,hi,hm,h=>by
  have e:i<t.elem.length:=by omega
  obtain ⟨c,d,e1,e2,p⟩:=hr2 _ (List.getElem_mem e)
  rw [ZbV,Zet,Zal,decide_eq_true e]
  rw [if_pos rfl,if_pos rfl,Zam e,Option.bind_some,Option.bind_some,e1,e2,Option.bind_some,Option.bind_some]
  rw [if_pos (Zaj (by omega)),if_pos (Zaj (by omega))]
  exact ZCl r1 r2 n t hl hn hl2 hr hr2 k m (i+1) _ _ (by omega) (by omega) (Zyw h p)
theorem Zhu:∀ (n:Nat) (t:Ty),t.size+2600002≤n→t.small→t.Good→∃ a b,Zcf n t=some a∧Zea n t=some b∧LB a b
 | 0,t,h,_,_=>by omega
 | n+1,t,h,ht,gt=>by
  have hl:=t.lens
  have c:=ht.1
  obtain ⟨a,b,e1,e2,hb⟩:=ZiC n t (by omega) ht gt
  rw [Zcf,Zez,Zea,ZkY,e1,e2]
  exact ZCl (Zcf n) (Zea n) n t (by omega) (by omega) (by omega) (fun p hp=>by
   have:=t.field_size p hp
   exact Zhu n _ (by omega) (Ty.small_field ht hp) (ZcG gt hp)) (fun p hp=>by
   have:=t.elem_size p hp
   exact Zhu n _ (by omega) (Ty.small_elem ht hp) (ZhG gt hp)) t.elem.length n 0 a b (by omega) (by omega) hb
theorem ZmY (n:Nat) (t:Ty) (hn:3000000≤n) (ht:t.small):∃ c,Zes n t=some c∧ZjT n t=some c∧(c=0→t.Good):=by
 have d:=ht.1
 obtain ⟨e,l1,l2,e1,e2,e3⟩:=Zkw n t 1 4096 (by omega) ht (by decide) (by decide) (by decide) (by decide)
 rw [Zes,ZjT,e1,e2]
 simp only [Option.bind_some]
 by_cases h:e=0
 ·
  obtain ⟨_,_,_,g⟩:=e3 h
  have gt:t.Good:=g t (by simp)
  obtain ⟨a,b,q1,q2,p1,p2,p3,p4,p5⟩:=Zhu n t (by omega) ht gt
  rw [decide_eq_true h,q1,q2]
  simp only [Bool.not_true,Bool.false_eq_true,if_false,Option.bind_some]
  by_cases c:4096<a
  ·
   have c2:4096<b:=by unfold RL at p5;omega
   rw [decide_eq_true c,decide_eq_true c2]
   exact ⟨9,rfl,rfl,fun q=>absurd q (by decide)⟩
  ·
   have c2:¬ 4096<b:=by unfold RL at p5;omega
   rw [decide_eq_false c,decide_eq_false c2]
   exact ⟨0,rfl,rfl,fun _=>gt⟩
 ·
  rw [decide_eq_false h]
  exact ⟨e,rfl,rfl,fun q=>absurd q h⟩
theorem Zsu {s:ByteArray} (h:Zei s=true):s.size≤32:=by
 unfold Zei ZwU at h
 simp only [Bool.and_eq_true,decide_eq_true_eq] at h
 have:s.size=s.data.toList.length:=by simp
 omega
theorem Zu6 {s:ByteArray} (h:sEq s ⟨#[]⟩=true):s.size=0:=by
 rw [Zwd] at h;exact of_decide_eq_true h
theorem Zve (k:Int):∀ (l b:List TF),Zgb k b l=0→∀ x∈l,∃ b',Zkf k b' x=0
 | [],_,_,x,hx=>absurd hx (by simp)
 | y::r,b,h,x,hx=>by
  rw [Zgb] at h
  by_cases q:Zkf k b y=0
  ·
   rw [if_pos q] at h
   rcases List.mem_cons.1 hx with rfl | hx
   ·
    exact ⟨b,q⟩
   ·
    exact Zve k r _ h x hx
  ·
   rw [if_neg q] at h;exact absurd h q
theorem Zss {k:Int} {b:List TF} {x:TF} (h:Zkf k b x=0):Zei x.2.1=true∧(1≤x.1∧x.1≤9999)∧(1≤x.2.2.1∧x.2.2.1≤3)∧(k=10→x.2.2.1=1)∧(x.2.2.1=3→x.2.2.2.2.length=1)∧(x.2.2.1≠3→x.2.2.2.2=[]):=by
 unfold Zkf at h
 by_cases h1:Zei x.2.1=true
 ·
  rw [if_pos h1] at h
  by_cases h2:¬ (1≤x.1∧x.1≤9999)
  ·
   rw [if_pos h2] at h;exact absurd h (by decide)
  rw [if_neg h2] at h
  by_cases h3:(b.any fun q=>Zbb q x)=true
  ·
   rw [if_pos h3] at h;exact absurd h (by decide)
  rw [if_neg h3] at h
  by_cases h4:¬ (1≤x.2.2.1∧x.2.2.1≤3)∨(k=10∧x.2.2.1≠1)
  ·
   rw [if_pos h4] at h;exact absurd h (by decide)
  rw [if_neg h4] at h
  by_cases h5:x.2.2.1=3∧x.2.2.2.2.length=0
  ·
   rw [if_pos h5] at h;exact absurd h (by decide)
  rw [if_neg h5] at h
  by_cases h6:1<x.2.2.2.2.length∨(x.2.2.1≠3∧0<x.2.2.2.2.length)
  ·
   rw [if_pos h6] at h;exact absurd h (by decide)
  refine ⟨h1,by omega,by omega,by omega,by omega,fun q=>?_⟩
  have:x.2.2.2.2.length=0:=by omega
  exact List.length_eq_zero_iff.1 this
 ·
  rw [if_neg h1] at h;exact absurd h (by decide)
structure Ty.Own (t:Ty):Prop where
 kind:1≤t.kind∧t.kind≤10
 words:t.kind=4→0<t.words.length→t.min=0∧t.max=0∧t.words.length≤64∧Zwu none t.words=0
 nowords:t.kind≠4→t.words=[]
 noelem:t.kind≠8→t.elem=[]
 nofields:t.kind≠9→t.kind≠10→t.fields=[]
 noscale:t.kind≠3→t.scale=0
 nobounds:¬ (2≤t.kind∧t.kind≤8)→t.min=0∧t.max=0
 scale:0≤t.scale∧t.scale≤12
 bounds:(2≤t.kind∧t.kind≤8)→¬ (t.kind=4∧0<t.words.length)→(Zat t.kind).1≤t.min∧t.max≤(Zat t.kind).2∧t.min≤t.max
 elem:t.kind=8→∃ e,t.elem=[e]
 cases:t.kind=10→0<t.fields.length
 fields:t.fields.length≤64
 each:∀ x∈t.fields,Zei x.2.1=true∧(1≤x.1∧x.1≤9999)∧(1≤x.2.2.1∧x.2.2.1≤3)∧(t.kind=10→x.2.2.1=1)∧(x.2.2.1=3→x.2.2.2.2.length=1)∧(x.2.2.1≠3→x.2.2.2.2=[])
 apart:Zgb t.kind [] t.fields=0
theorem Ty.own_of {t:Ty} (h:ZrI t=0):t.Own:=by
 have hu:=ZkQ h
 obtain ⟨k1,k2,k3⟩:=hu
 simp only [ZaX,Bool.or_eq_true,Bool.and_eq_true,Bool.not_eq_true',Bool.and_eq_false_iff,decide_eq_false_iff_not,decide_eq_true_eq,not_or,not_and] at k2
 obtain ⟨⟨⟨⟨u1,u2⟩,u3⟩,u4⟩,u5⟩:=k2
 have nw:t.kind≠4→t.words=[]:=fun q=>List.length_eq_zero_iff.1 (by have:=u3 q;omega)
 have ne:t.kind≠8→t.elem=[]:=fun q=>List.length_eq_zero_iff.1 (by have:=u4 q;omega)
 have nf:t.kind≠9→t.kind≠10→t.fields=[]:=fun q q'=>List.length_eq_zero_iff.1 (by have:=u5 ⟨q,q'⟩;omega)
 have ns:t.kind≠3→t.scale=0:=fun q=>by
  have:=u2 q
  by_cases z:t.scale=0
  ·
   exact z
  ·
   exact absurd z this
 have nb:¬ (2≤t.kind∧t.kind≤8)→t.min=0∧t.max=0:=fun q=>by
  have:=u1 (by omega)
  omega
 have h0:=h
 rw [ZrI,if_neg k1,if_neg (by
  intro q
  simp only [ZaX,Bool.or_eq_true,Bool.and_eq_true,Bool.not_eq_true',Bool.and_eq_false_iff,decide_eq_false_iff_not,decide_eq_true_eq] at q
  rcases q with (((q | q) | q) | q) | q
  ·
   have:=u1 q.1;have:=q.2;omega
  ·
   exact u2 q.1 q.2
  ·
   exact u3 q.1 q.2
  ·
   exact u4 q.1 q.2
  ·
   exact u5 q.1 q.2)] at h
 by_cases h3:t.kind=4∧0<t.words.length
 ·
  rw [if_pos h3,ZiF] at h
  by_cases w1:t.min≠0∨t.max≠0
  ·
   rw [if_pos w1] at h;exact absurd h (by decide)
  rw [if_neg w1] at h
  by_cases w2:64<t.words.length
  ·
   rw [if_pos w2] at h;exact absurd h (by decide)
  rw [if_neg w2] at h
  have ef:t.fields=[]:=nf (by omega) (by omega)
  exact { kind:=by omega,words:=fun _ _=>⟨by omega,by omega,by omega,h⟩,nowords:=nw,noelem:=ne,nofields:=nf,noscale:=ns,nobounds:=nb,scale:=by have:=ns (by omega);omega,bounds:=fun _ q=>absurd h3 q,elem:=fun q=>by omega,cases:=fun q=>by omega,fields:=by rw [ef];simp,each:=fun x hx=>by rw [ef] at hx;simp at hx,apart:=by rw [ef];rfl }
 rw [if_neg h3] at h
 by_cases h4:((2≤t.kind∧t.kind≤8)∧Zbq t (Zat t.kind).1 (Zat t.kind).2=false)∨¬ (0≤t.scale∧t.scale≤12)
 ·
  rw [if_pos h4] at h;exact absurd h (by decide)
 rw [if_neg h4] at h
 by_cases h5:(t.kind=8∧t.elem.length=0)∨(t.kind=10∧t.fields.length=0)
 ·
  rw [if_pos h5] at h;exact absurd h (by decide)
 rw [if_neg h5] at h
 by_cases h6:1<t.elem.length
 ·
  rw [if_pos h6] at h;exact absurd h (by decide)
 rw [if_neg h6] at h
 by_cases h7:64<t.fields.length
 ·
  rw [if_pos h7] at h;exact absurd h (by decide)
 rw [if_neg h7] at h
 refine { kind:=by omega,words:=fun a b=>absurd ⟨a,b⟩ h3,nowords:=nw,noelem:=ne,nofields:=nf,noscale:=ns,nobounds:=nb,scale:=by omega,bounds:=fun q _=>?_,elem:=fun q=>?_,cases:=fun q=>by omega,fields:=by omega,each:=fun x hx=>?_,apart:=h }
 ·
  have hb:Zbq t (Zat t.kind).1 (Zat t.kind).2=true:=by
   cases hb:Zbq t (Zat t.kind).1 (Zat t.kind).2 with
   | true=>rfl
   | false=>exact absurd (Or.inl ⟨q,hb⟩) h4
  unfold Zbq at hb
  simp only [Bool.and_eq_true,decide_eq_true_eq] at hb
  exact ⟨hb.1.1,hb.1.2,hb.2⟩
 ·
  match he:t.elem with
  | []=>exact absurd (Or.inl ⟨q,by rw [he];rfl⟩) h5
  | [e]=>exact ⟨e,rfl⟩
  | _::_::_=>rw [he] at h6;simp at h6
 ·
  obtain ⟨b',hb⟩:=Zve _ _ _ h x hx
  exact Zss hb
theorem Ty.Good.own {t:Ty} (h:t.Good):t.Own:=Ty.own_of (Ziu h)
theorem ZlZ {α:Type} (p:α→Bool) (l:List α):∀ (k j:Nat),j+k=l.length→(l.drop j).find? p=idx l (ffI p l j)
 | 0,j,h=>by rw [Zin p l j (by omega),List.drop_eq_nil_of_le (by omega)];rfl
 | k+1,j,h=>by
  have a:j<l.length:=by omega
  rw [ZgB p l j a,List.drop_eq_getElem_cons a,List.find?_cons]
  cases hp:p l[j] with
  | true=>rw [if_pos rfl,Zam a]
  | false=>rw [if_neg (by decide)];exact ZlZ p l k (j+1) (by omega)
theorem Zmx {α:Type} (p:α→Bool) (l:List α):l.find? p=idx l (ffI p l 0):=ZlZ p l l.length 0 (by omega)
def Zce (t:Ty) (w:ByteArray):Option TF:=t.fields.find? fun x=>sEq x.2.1 w
theorem ZfU {t:Ty} {w:ByteArray} {p:TF} (h:Zce t w=some p):p∈t.fields∧p.2.1=w:=⟨List.mem_of_find?_eq_some h,(Zfe _ _).1 (List.find?_some (p:=fun x:TF=>sEq x.2.1 w) h)⟩
def Zpa:Nat→Ty→Vl→Bool
 | 0,_,_=>false
 | d+1,t,v =>
  if t.kind≠v.kind then false
  else if t.kind=2∨t.kind=6∨t.kind=7 then decide (t.min≤v.int)&&decide (v.int≤t.max)
  else if t.kind=3 then decide (v.scale=t.scale)&&(decide (t.min≤v.int)&&decide (v.int≤t.max))
  else if t.kind=4 then (t.words.any fun x=>sEq x v.text)||(decide ((t.words.length:Int)=0)&&Zmn t v.text.size)
  else if t.kind=5 then Zmn t v.text.size
  else if t.kind=8 then (v.list.all fun x=>t.elem.all fun e=>Zpa d e x)&&Zmn t v.list.length
  else if t.kind=10 then match Zce t v.text with
   | some p=>v.list.all fun x=>Zpa d p.2.2.2.1 x
   | none=>false
  else if t.kind=9 then (v.fields.all fun q=>match Zce t q.1 with
   | some p=>Zpa d p.2.2.2.1 q.2
   | none=>false) && !(t.fields.any (Zsn v))
  else true
theorem Ty.depth_elem {t x:Ty} (hx:x∈t.elem):x.depth<t.depth:=by
 have:=t.depth_eq
 have:=(ZjO t.elem (Zc3 t.elem)).1 (Nat.le_refl _) x hx
 omega
theorem Ty.depth_field {t:Ty} {p:TF} (hx:p∈t.fields):p.2.2.2.1.depth<t.depth:=by
 have:=t.depth_eq
 have:=(Zio t.fields (Zca t.fields)).1 (Nat.le_refl _) p hx
 omega
theorem ZvA {v:Vl} (gv:v.Good) (vk:v.kind=10):∃ x,v.list=[x]:=by
 obtain ⟨_,u2⟩:=ZkJ (ZhR gv)
 have q:=ZhR gv
 rw [Zhc] at q
 by_cases p1:Za8 v=true
 ·
  rw [if_pos p1] at q;exact absurd q (by decide)
 rw [if_neg p1,if_neg (by omega),if_neg u2,if_neg (by omega),if_neg (by omega),if_neg (by omega),if_neg (by omega),if_neg (by omega),if_neg (by omega),if_neg (by omega),if_neg (by omega),if_neg (by omega)] at q
 by_cases p2:Zei v.text=true
 ·
  rw [if_pos p2] at q
  by_cases p3:v.list.length=0
  ·
   rw [if_pos p3] at q;exact absurd q (by decide)
  rw [if_neg p3] at q
  by_cases p4:1<v.list.length
  ·
   rw [if_pos p4] at q;exact absurd q (by decide)
  exact List.length_eq_one_iff.1 (by omega)
 ·
  rw [if_neg p2] at q;exact absurd q (by decide)
def ZC6 (d:Nat) (t:Ty) (q:ByteArray × Vl):Bool:=match Zce t q.1 with
 | some p=>Zpa d p.2.2.2.1 q.2
 | none=>false
theorem ZsG (rec:Ty→Vl→Option Bool) (d n:Nat) (t:Ty) (v:Vl) (hn:t.size+1000≤n) (hn2:v.size<n) (hs:v.size≤1000000000) (ht:t.size≤200) (vk:v.kind=9)
  (hr:∀ p∈t.fields,∀ q∈v.fields,rec p.2.2.2.1 q.2=some (Zpa d p.2.2.2.1 q.2)):∀ (k m i:Nat),i+k=v.fields.length→k<m→ZcL rec n t v m i=some ((v.fields.drop i).all (ZC6 d t) && !(t.fields.any (Zsn v)))
 | k,0,i,_,h=>absurd h (Nat.not_lt_zero _)
 | 0,m+1,i,hi,_=>by
  have b:=Zeq v
  have c:=t.lens.2
  have e2:=Zm4 rec n t v vk (by omega) (by omega) (by omega) t.fields.length n 0 (by omega) (by omega)
  rw [List.drop_zero] at e2
  rw [ZcL,Zal,decide_eq_false (by omega),List.drop_eq_nil_of_le (by omega)]
  simp only [Bool.false_eq_true,if_false,Zji,List.all_nil,Bool.true_and]
  exact e2
 | k+1,m+1,i,hi,hm=>by
  have a:i<v.fields.length:=by omega
  have b:=Zeq v
  have c:=t.lens.2
  have ih:=ZsG rec d n t v hn hn2 hs ht vk hr k m (i+1) (by omega) (by omega)
  rw [ZcL,Zal,decide_eq_true a,if_pos rfl,Zam a,Option.bind_some,ZjD n t _ (by omega) (by omega),Option.bind_some,List.drop_eq_getElem_cons a,List.all_cons]
  have hf:Zce t v.fields[i].1=idx t.fields (ffI (fun x:TF=>sEq x.2.1 v.fields[i].1) t.fields 0):=Zmx _ _
  rw [ZC6,hf]
  rcases Zjs (fun x:TF=>sEq x.2.1 v.fields[i].1) t.fields t.fields.length 0 (by omega) with q | ⟨j,hj,q,_⟩
  ·
   rw [q,if_pos (by decide)];rfl
  ·
   rw [q,if_neg (by rw [decide_eq_true_eq];omega),Zam hj,Option.bind_some,hr _ (List.getElem_mem hj) _ (List.getElem_mem a),Option.bind_some]
   change _=some ((Zpa d t.fields[j].2.2.2.1 v.fields[i].2&&(v.fields.drop (i+1)).all (ZC6 d t)) && !(t.fields.any (Zsn v)))
   cases hb:Zpa d t.fields[j].2.2.2.1 v.fields[i].2 with
   | false=>rfl
   | true =>
    rw [if_neg (by decide),if_pos (Zaj (by omega)),Bool.true_and]
    exact ih
theorem Zmt:∀ (n d:Nat) (t:Ty) (v:Vl),t.size+1500000≤n→v.size+1500000≤n→v.size≤1000000000→t.small→t.Good→v.Good→t.depth≤d→Zcp n t v=some (Zpa d t v)
 | 0,d,t,v,h,_,_,_,_,_,_=>by omega
 | n+1,0,t,v,_,_,_,_,_,_,hd=>by have:=t.depth_eq;omega
 | n+1,d+1,t,v,h1,h2,h3,ht,gt,gv,hd=>by
  obtain ⟨k1,k2,k3⟩:=ZkQ (Ziu gt)
  have hl:=t.lens
  have i:=ht.1
  have m:=Zeq v
  have l:=(ZdR v).1
  have hw:=(t.ok_eq.1 ht.2.2).1
  rw [Zcp,ZpN,Zpa]
  by_cases hk:t.kind=v.kind
  rotate_left
  ·
   rw [decide_eq_false hk,if_pos hk];rfl
  rw [decide_eq_true hk,if_neg (show ¬ (t.kind≠v.kind) from fun q=>q hk)]
  simp only [Bool.not_true,Bool.false_eq_true,if_false]
  rcases Zel k1 with tk | tk | tk | tk | tk | tk | tk | tk | tk | tk
  ·
   simp [tk,ZaH,Znq]
  ·
   simp [tk,ZaH]
  ·
   simp [tk,ZaH]
  ·
   have e2:=ZnT (Zcp n) n t v (by omega) t.words.length n 0 (by omega) (by omega)
   rw [List.drop_zero] at e2
   simp only [tk,ZaH]
   exact e2
  ·
   simp [tk,ZaH,Zmn]
  ·
   simp [tk,ZaH]
  ·
   simp [tk,ZaH]
  ·
   obtain ⟨e,he⟩:=gt.own.elem tk
   have f:e∈t.elem:=by rw [he];simp
   have k:idx t.elem 0=some e:=by rw [he];rfl
   have e2:=Zm9 (Zcp n) n t v e (by rw [he];simp) k (fun x=>Zpa d e x) (by omega) (fun x hx=>by
    have a:=t.elem_size _ f
    have b:=v.list_size x hx
    have c:=Ty.depth_elem f
    exact Zmt n d e x (by omega) (by omega) (by omega) (Ty.small_elem ht f) (ZhG gt f) (ZfQ gv (by rw [Za6,if_pos (.inl (by omega))];exact hx)) (by omega)) v.list.length n 0 (by omega) (by omega)
   rw [List.drop_zero] at e2
   have e3:(v.list.all fun x=>t.elem.all fun e=>Zpa d e x)=v.list.all fun x=>Zpa d e x:=by
    congr 1;funext x;rw [he];simp
   rw [e3]
   simp only [tk,ZaH]
   exact e2
  ·
   have e2:=ZsG (Zcp n) d n t v (by omega) (by omega) h3 i (by omega) (fun p hp q hq=>by
     have a:=t.field_size p hp
     have b:=v.field_size q hq
     have c:=Ty.depth_field hp
     exact Zmt n d _ _ (by omega) (by omega) (by omega) (Ty.small_field ht hp) (ZcG gt hp) (ZfQ gv (by rw [Za6,if_neg (by omega),if_pos (by omega)];exact List.mem_map_of_mem hq)) (by omega)) v.fields.length n 0 (by omega) (by omega)
   rw [List.drop_zero] at e2
   have g:Zks (Zcp n) n t v=_:=e2
   simp only [tk,ZaH,g]
   rfl
  ·
   have vk:v.kind=10:=by omega
   obtain ⟨x,hx⟩:=ZvA gv vk
   have hi:idx v.list 0=some x:=by rw [hx];rfl
   have hf:Zce t v.text=idx t.fields (ffI (fun x:TF=>sEq x.2.1 v.text) t.fields 0):=Zmx _ _
   have e:ZaH (Zcp n) n t v false=some (match Zce t v.text with
    | some p=>v.list.all fun x=>Zpa d p.2.2.2.1 x
    | none=>false):=by
    simp only [ZaH,tk,ZjD n t _ (show t.fields.length≤1000000000 by omega) (show t.fields.length<n by omega),Option.bind_some]
    rw [hf]
    rcases Zjs (fun x:TF=>sEq x.2.1 v.text) t.fields t.fields.length 0 (by omega) with q | ⟨j,hj,q,_⟩
    ·
     rw [q];rfl
    ·
     have a:=t.field_size _ (List.getElem_mem hj)
     have b:=v.list_size x (by rw [hx];simp)
     have c:=Ty.depth_field (List.getElem_mem hj)
     have e5:=Zmt n d t.fields[j].2.2.2.1 x (by omega) (by omega) (by omega) (Ty.small_field ht (List.getElem_mem hj)) (ZcG gt (List.getElem_mem hj)) (ZfQ gv (by rw [Za6,if_pos (.inr vk),hx];simp)) (by omega)
     rw [q,Zam hj,hi]
     simp [e5,hx]
   simp only [tk]
   exact e
def Zc4 (a0:Int × ByteArray × Int × Ty × List Vl) (a1:Int):Bool :=
 decide (a0.1=a1)
theorem Zml (w0:World) (B:List (List AV)) (Rw:List RowA) (L:List LoopA) (a0:Int × ByteArray × Int × Ty × List Vl) (la1:Nat) (a1:Int) (hla1:B[la1]? = some ([.val (.int .i64 a1)])) (r:Bool) (h:Zc4 a0 a1=r) :
  ACalls Tryz.prog w0 191 [.agg (.val (.int .i64 a0.1)::(.val (.string a0.2.1)::(.val (.int .i64 a0.2.2.1)::((a0.2.2.2.1.cs)++([.list (a0.2.2.2.2.map avV) .none]))))),.box la1 0] ⟨B,Rw,L⟩ fun x st=>x = .val (.bool r)∧st=⟨B,Rw,L⟩:=by
 rw [Zc4] at h
 refine hd [.tmp 3] Tryz.func191 Tryz.ntmps191 fun M0 W0 hN c d a hu hO hs=>?_
 simp only [Zaq]
 have b:=(List.getElem?_eq_some_iff.1 hla1).1
 have hs:=And.intro (Zag hla1) hs
 refine rg [1,2] hs ?_
 refine rg [3] hs ?_
 exact rT h hs a hO
theorem Zlf (w0:World) (B:List (List AV)) (Rw:List RowA) (L:List LoopA) (a0:Int × ByteArray × Int × Ty × List Vl) (la1:Nat) (a1:Int) (hla1:B[la1]? = some ([.val (.int .i64 a1)])) :
  ACalls Tryz.prog w0 191 [.agg (.val (.int .i64 a0.1)::(.val (.string a0.2.1)::(.val (.int .i64 a0.2.2.1)::((a0.2.2.2.1.cs)++([.list (a0.2.2.2.2.map avV) .none]))))),.box la1 0] ⟨B,Rw,L⟩ fun x st=>x = .val (.bool (Zc4 a0 a1))∧st=⟨B,Rw,L⟩:=Zml w0 B Rw L a0 la1 a1 hla1 _ rfl
def Zb0 (n:Nat) (a0:List (Int × ByteArray × Int × Ty × List Vl)) (a1:Int):Option ((Int × ByteArray × Int × Ty × List Vl) × Bool) :=
 (Zay n a0 (fun (x0:Int × ByteArray × Int × Ty × List Vl)=>some (Zc4 x0 a1))).bind fun y3 =>
 if decide (y3<0) then
  some (((0,(⟨#[]⟩:ByteArray),0,Ty.mk 0 0 0 0 ([]) ([]) ([]),[]),false))
 else
  (idx a0 y3).bind fun x9 =>
  some ((x9,true))
theorem Zdx (w0:World) (n:Nat) (B:List (List AV)) (Rw:List RowA) (L:List LoopA) (a0:List (Int × ByteArray × Int × Ty × List Vl)) (a1:Int) (r:(Int × ByteArray × Int × Ty × List Vl) × Bool) (h:Zb0 n a0 a1=some r) :
  ACalls Tryz.prog w0 133 [.list (a0.map ZeF) .none,.val (.int .i64 a1)] ⟨B,Rw,L⟩ fun x st=>x = .tup [.agg (.val (.int .i64 r.1.1)::(.val (.string r.1.2.1)::(.val (.int .i64 r.1.2.2.1)::((r.1.2.2.2.1.cs)++([.list (r.1.2.2.2.2.map avV) .none]))))),.val (.bool r.2)]∧st=⟨B,Rw,L⟩:=by
 rw [Zb0] at h
 refine hd [.cell 4 54,.tmp 5] Tryz.func133 Tryz.ntmps133 fun M0 W0 hN l o a hu hO hs=>?_
 simp only [Zaq]
 refine rg [0,3,4] hs ?_
 obtain ⟨y3,hy3,h⟩:=bind_some h
 refine rc 2 [0,4,6] hs ?_;intro K2 c
 refine Zac _ (ZbY w0 n _ _ _ a0 191 [.box B.length 0] (fun (x0:Int × ByteArray × Int × Ty × List Vl)=>some (Zc4 x0 a1)) (fun x0 r hx B' i hB' m=>by cases hx;exact Zlf w0 _ _ _ x0 _ a1 (ZcE hB' ev)) _ hy3) (hv hs) ?_
 refine ne hs c ?_
 clear c
 apply Zaa;intro K4 b
 refine rg [0,4,6,11] hs ?_
 refine cnd h hs (fun hs h=>?_) (fun hs h=>?_)
 ·
  refine rg [4,5] hs ?_
  exact rt h hs a hO
 refine sk [0,4,6] hs b ?_
 clear b
 obtain ⟨x9,g,h⟩:=bind_some h
 obtain ⟨j,k,e⟩:=Zan g
 have d:=Zap (f:=ZeF) e
 have hs:=And.intro d hs
 refine rg [4,5] hs ?_
 exact rt h hs a hO
def Zfv (n:Nat)  (x0_k17:Int):Option (Int × Bool) :=
 some ((x0_k17,true))
def ZbL (n:Nat) (a2:Int):Nat→Int→Int→Option (Int × Bool)
 | 0,_,_=>none
 | m+1,x0_l19,x1_l19 =>
  if decide (a2<x1_l19) then
   if !(decide ((x0_l19.tmod 10)=0)) then
    some ((0,false))
   else
    if I64 (x0_l19.tdiv 10) then
     if I64 (x1_l19-1) then
      (ZbL n a2 m) (x0_l19.tdiv 10) (x1_l19-1)
     else none
    else none
  else
   Zfv n x0_l19
def Zcv (n:Nat) (a2:Int) (x0_k3:Int) (x1_k3:Int):Option (Int × Bool) :=
 ZbL n a2 n x0_k3 x1_k3
def ZbD (n:Nat) (a2:Int):Nat→Int→Int→Option (Int × Bool)
 | 0,_,_=>none
 | m+1,x0_l5,x1_l5 =>
  if decide (x1_l5<a2) then
   if I64 (x0_l5*10) then
    if (decide (999999999999999<(x0_l5*10)))||(decide ((x0_l5*10)<((-999999999999999)))) then
     some ((0,false))
    else
     if I64 (x1_l5+1) then
      (ZbD n a2 m) (x0_l5*10) (x1_l5+1)
     else none
   else none
  else
   Zcv n a2 x0_l5 x1_l5
def ZbR (n:Nat) (a0:Int) (a1:Int) (a2:Int):Option (Int × Bool) :=
 ZbD n a2 n a0 a1
theorem ZfN (w0:World) (n:Nat) (B:List (List AV)) (Rw:List RowA) (L:List LoopA) (a0:Int) (a1:Int) (a2:Int) (r:Int × Bool) (h:ZbR n a0 a1 a2=some r) :
  ACalls Tryz.prog w0 129 [.val (.int .i64 a0),.val (.int .i64 a1),.val (.int .i64 a2)] ⟨B,Rw,L⟩ fun x st=>x = .tup [.val (.int .i64 r.1),.val (.bool r.2)]∧st=⟨B,Rw,L⟩:=by
 rw [ZbR] at h
 refine hd [.tmp 6,.tmp 7] Tryz.func129 Tryz.ntmps129 fun M0 W0 hN k l a hu hO hs=>?_
 simp only [Zaq]
 refine rg [0,1,2] hs ?_
 refine Zak (fun e st=>∃ (g:Int) (j:Int),Ck e st B Rw L [(0,true,.val (.int .i64 g)),(1,true,.val (.int .i64 j)),(2,true,.val (.int .i64 a2))] [] [] (Zcv n a2 g j=some r)) ?_ ?_
 ·
  intro K4 w
  apply Zad
  refine Zao (fun m e st=>∃ (d:Int) (f:Int),Ck e st B Rw L [(0,true,.val (.int .i64 d)),(1,true,.val (.int .i64 f)),(2,true,.val (.int .i64 a2))] [] [] (ZbD n a2 m d f=some r)) n ⟨a0,a1,([]),Rw,ef hs,ef hs,hO,h⟩ ?_
  rintro ml5 e st ⟨d,f,Xl5,Rl5,rfl,rfl,hO,h⟩ Ul5 Vl5
  cases ml5 with
  | zero=>cases h
  | succ ml5 =>
  rw [ZbD] at h
  refine td hN k l a hO ?_
  apply Zaa;intro K6 v
  refine rg [0,1,2,10] hs ?_
  refine cnd h hs (fun hs h=>?_) (fun hs h=>?_)
  rotate_left
  ·
   refine sx [0,1,2] hs w ?_
   exact ⟨d,f,([]),Rl5,ef hs,ef hs,hO,h⟩
  refine sk [0,1,2] hs v ?_
  clear v
  apply Zaa;intro K9 t
  apply Zad
  obtain ⟨ab,h⟩:=Zab h
  refine rg [0,1,2] hs ?_
  refine rg [0,1,2,20] hs ?_
  refine cnd h hs (fun hs h=>?_) (fun hs h=>?_)
  ·
   refine rg [6,7] hs ?_
   exact rt h hs a hO
  refine sk [0,1,2] hs t ?_
  clear t
  obtain ⟨z,h⟩:=Zab h
  refine rl [0,1,2] hs (fun e s=>Vl5 ml5 e s (Nat.lt_succ_self _)) ?_
  exact ⟨(d*10),(f+1),([]),Rl5,ef hs,ef hs,hO,h⟩
 ·
  clear h;rintro e st ⟨g,j,Xk3,Rk3,rfl,rfl,hO,h⟩
  rw [Zcv] at h
  refine td hN k l a hO ?_
  refine Zak (fun e st=>∃ (i:Int),Ck e st B Rw L [(0,true,.val (.int .i64 i))] [] [] (Zfv n i=some r)) ?_ ?_
  ·
   intro K18 u
   apply Zad
   refine Zao (fun m e st=>∃ (b:Int) (c:Int),Ck e st B Rw L [(0,true,.val (.int .i64 b)),(1,true,.val (.int .i64 c)),(2,true,.val (.int .i64 a2))] [] [] (ZbL n a2 m b c=some r)) n ⟨g,j,([]),Rk3,ef hs,ef hs,hO,h⟩ ?_
   rintro ml19 e st ⟨b,c,Xl19,Rl19,rfl,rfl,hO,h⟩ Ul19 Vl19
   cases ml19 with
   | zero=>cases h
   | succ ml19 =>
   rw [ZbL] at h
   refine td hN k l a hO ?_
   apply Zaa;intro K20 p
   refine rg [0,1,2,23] hs ?_
   refine cnd h hs (fun hs h=>?_) (fun hs h=>?_)
   rotate_left
   ·
    refine sx [0] hs u ?_
    exact ⟨b,([]),Rl19,ef hs,ef hs,hO,h⟩
   refine sk [0,1,2] hs p ?_
   clear p
   apply Zaa;intro K23 q
   apply Zad
   apply Zaa;intro K24 o
   refine rg [0,1,2,28] hs ?_
   refine cnd h hs (fun hs h=>?_) (fun hs h=>?_)
   ·
    refine rg [6,7] hs ?_
    exact rt h hs a hO
   refine sk [0,1,2] hs o ?_
   clear o
   obtain ⟨y,h⟩:=Zab h
   refine rl [0,1,2] hs q ?_
   clear q
   obtain ⟨aa,h⟩:=Zab h
   refine rl [0,1,2] hs (fun e s=>Vl19 ml19 e s (Nat.lt_succ_self _)) ?_
   exact ⟨(b.tdiv 10),(c-1),([]),Rl19,ef hs,ef hs,hO,h⟩
  ·
   clear h;rintro e st ⟨i,Xk17,Rk17,rfl,rfl,hO,h⟩
   rw [Zfv] at h
   refine td hN k l a hO ?_
   refine rg [6,7] hs ?_
   exact rt h hs a hO
def Zi4 (n:Nat)  (x0_k17:Int):Option (Int × Bool) :=
 some ((x0_k17,true))
def Zde (n:Nat)  : Nat→Int→Int→Option (Int × Bool)
 | 0,_,_=>none
 | m+1,x0_l19,x1_l19 =>
  if decide (x1_l19<0) then
   if !(decide ((x0_l19.tmod 10)=0)) then
    some ((0,false))
   else
    if I64 (x0_l19.tdiv 10) then
     if I64 (x1_l19+1) then
      (Zde n m) (x0_l19.tdiv 10) (x1_l19+1)
     else none
    else none
  else
   Zi4 n x0_l19
def ZeM (n:Nat)  (x0_k3:Int) (x1_k3:Int):Option (Int × Bool) :=
 Zde n n x0_k3 x1_k3
def Zdf (n:Nat)  : Nat→Int→Int→Option (Int × Bool)
 | 0,_,_=>none
 | m+1,x0_l5,x1_l5 =>
  if decide (0<x1_l5) then
   if (decide (999999999999999<x0_l5))||(decide (x0_l5<((-999999999999999)))) then
    some ((x0_l5,true))
   else
    if I64 (10*x0_l5) then
     if I64 (x1_l5-1) then
      (Zdf n m) (10*x0_l5) (x1_l5-1)
     else none
    else none
  else
   ZeM n x0_l5 x1_l5
def ZgL (n:Nat) (a0:Int) (a1:Int):Option (Int × Bool) :=
 Zdf n n a0 a1
theorem Zsr (w0:World) (n:Nat) (B:List (List AV)) (Rw:List RowA) (L:List LoopA) (a0:Int) (a1:Int) (r:Int × Bool) (h:ZgL n a0 a1=some r) :
  ACalls Tryz.prog w0 85 [.val (.int .i64 a0),.val (.int .i64 a1)] ⟨B,Rw,L⟩ fun x st=>x = .tup [.val (.int .i64 r.1),.val (.bool r.2)]∧st=⟨B,Rw,L⟩:=by
 rw [ZgL] at h
 refine hd [.tmp 4,.tmp 5] Tryz.func85 Tryz.ntmps85 fun M0 W0 hN k l a hu hO hs=>?_
 simp only [Zaq]
 refine rg [0,1] hs ?_
 refine Zak (fun e st=>∃ (g:Int) (j:Int),Ck e st B Rw L [(0,true,.val (.int .i64 g)),(1,true,.val (.int .i64 j))] [] [] (ZeM n g j=some r)) ?_ ?_
 ·
  intro K4 y
  apply Zad
  refine Zao (fun m e st=>∃ (d:Int) (f:Int),Ck e st B Rw L [(0,true,.val (.int .i64 d)),(1,true,.val (.int .i64 f))] [] [] (Zdf n m d f=some r)) n ⟨a0,a1,([]),Rw,ef hs,ef hs,hO,h⟩ ?_
  rintro ml5 e st ⟨d,f,Xl5,Rl5,rfl,rfl,hO,h⟩ Ul5 Vl5
  cases ml5 with
  | zero=>cases h
  | succ ml5 =>
  rw [Zdf] at h
  refine td hN k l a hO ?_
  apply Zaa;intro K6 w
  refine rg [0,1,7] hs ?_
  refine cnd h hs (fun hs h=>?_) (fun hs h=>?_)
  rotate_left
  ·
   refine sx [0,1] hs y ?_
   exact ⟨d,f,([]),Rl5,ef hs,ef hs,hO,h⟩
  refine sk [0,1] hs w ?_
  clear w
  apply Zaa;intro K9 u
  apply Zad
  apply Zaa;intro K10 t
  refine rg [0,1,15] hs ?_
  refine cnd h hs (fun hs h=>?_) (fun hs h=>?_)
  ·
   refine rg [4,5] hs ?_
   exact rt h hs a hO
  refine sk [0,1] hs t ?_
  clear t
  obtain ⟨aa,h⟩:=Zab h
  refine rl [0,1] hs u ?_
  clear u
  obtain ⟨ab,h⟩:=Zab h
  refine rl [0,1] hs (fun e s=>Vl5 ml5 e s (Nat.lt_succ_self _)) ?_
  exact ⟨(10*d),(f-1),([]),Rl5,ef hs,ef hs,hO,h⟩
 ·
  clear h;rintro e st ⟨g,j,Xk3,Rk3,rfl,rfl,hO,h⟩
  rw [ZeM] at h
  refine td hN k l a hO ?_
  refine Zak (fun e st=>∃ (i:Int),Ck e st B Rw L [(0,true,.val (.int .i64 i))] [] [] (Zi4 n i=some r)) ?_ ?_
  ·
   intro K18 v
   apply Zad
   refine Zao (fun m e st=>∃ (b:Int) (c:Int),Ck e st B Rw L [(0,true,.val (.int .i64 b)),(1,true,.val (.int .i64 c))] [] [] (Zde n m b c=some r)) n ⟨g,j,([]),Rk3,ef hs,ef hs,hO,h⟩ ?_
   rintro ml19 e st ⟨b,c,Xl19,Rl19,rfl,rfl,hO,h⟩ Ul19 Vl19
   cases ml19 with
   | zero=>cases h
   | succ ml19 =>
   rw [Zde] at h
   refine td hN k l a hO ?_
   apply Zaa;intro K20 p
   refine rg [0,1,20] hs ?_
   refine cnd h hs (fun hs h=>?_) (fun hs h=>?_)
   rotate_left
   ·
    refine sx [0] hs v ?_
    exact ⟨b,([]),Rl19,ef hs,ef hs,hO,h⟩
   refine sk [0,1] hs p ?_
   clear p
   apply Zaa;intro K23 q
   apply Zad
   apply Zaa;intro K24 o
   refine rg [0,1,25] hs ?_
   refine cnd h hs (fun hs h=>?_) (fun hs h=>?_)
   ·
    refine rg [4,5] hs ?_
    exact rt h hs a hO
   refine sk [0,1] hs o ?_
   clear o
   obtain ⟨z,h⟩:=Zab h
   refine rl [0,1] hs q ?_
   clear q
   obtain ⟨ad,h⟩:=Zab h
   refine rl [0,1] hs (fun e s=>Vl19 ml19 e s (Nat.lt_succ_self _)) ?_
   exact ⟨(b.tdiv 10),(c+1),([]),Rl19,ef hs,ef hs,hO,h⟩
  ·
   clear h;rintro e st ⟨i,Xk17,Rk17,rfl,rfl,hO,h⟩
   rw [Zi4] at h
   refine td hN k l a hO ?_
   refine rg [4,5] hs ?_
   exact rt h hs a hO
def Zhq (n:Nat)  : Option ((Int × ByteArray × Int × Ty × List Vl) × Bool) :=
 some (((0,(⟨#[]⟩:ByteArray),0,Ty.mk 0 0 0 0 ([]) ([]) ([]),[]),false))
def ZcS (n:Nat) (a0:Ty) (a1:Int):Nat→Int→Option ((Int × ByteArray × Int × Ty × List Vl) × Bool)
 | 0,_=>none
 | m+1,x6_l6 =>
  if decide (x6_l6<((a0.fields.length:Int))) then
   (idx a0.fields x6_l6).bind fun x12 =>
   if decide (x12.1=a1) then
    some ((x12,true))
   else
    if I64 (x6_l6+1) then
     (ZcS n a0 a1 m) (x6_l6+1)
    else none
  else
   Zhq n 
def Zfx (n:Nat) (a0:Ty) (a1:Int):Option ((Int × ByteArray × Int × Ty × List Vl) × Bool) :=
 ZcS n a0 a1 n 0
theorem Zka (w0:World) (n:Nat) (B:List (List AV)) (Rw:List RowA) (L:List LoopA) (a0:Ty) (a1:Int) (r:(Int × ByteArray × Int × Ty × List Vl) × Bool) (h:Zfx n a0 a1=some r) :
  ACalls Tryz.prog w0 88 [.agg (a0.cs),.val (.int .i64 a1)] ⟨B,Rw,L⟩ fun x st=>x = .tup [.agg (.val (.int .i64 r.1.1)::(.val (.string r.1.2.1)::(.val (.int .i64 r.1.2.2.1)::((r.1.2.2.2.1.cs)++([.list (r.1.2.2.2.2.map avV) .none]))))),.val (.bool r.2)]∧st=⟨B,Rw,L⟩:=by
 rw [Zfx] at h
 refine hd [.cell 4 54,.tmp 5] Tryz.func88 Tryz.ntmps88 fun M0 W0 hN j k a hu hO hs=>?_
 simp only [Zaq]
 refine rg [1,2,4] hs ?_
 refine Zak (fun e st=>Ck e st B Rw L [(4,true,.box (B.length+1) 0)] [a0.cs,[.val (.int .i64 0),.val (.string ((⟨#[]⟩:ByteArray))),.val (.int .i64 0),.val (.int .i64 0),.val (.int .i64 0),.val (.int .i64 0),.val (.int .i64 0),.list ([]) .full,.list ([]) .full,.list ([]) .full,.list ([]) .full]] [] (Zhq n  = some r)) ?_ ?_
 ·
  intro K4 o
  refine rg [1,2,4,6] hs ?_
  apply Zad
  refine Zao (fun m e st=>∃ (b:Int),Ck e st B Rw L [(1,true,.val (.int .i64 a1)),(2,true,.box B.length 0),(4,true,.box (B.length+1) 0),(6,true,.val (.int .i64 b))] [a0.cs,[.val (.int .i64 0),.val (.string ((⟨#[]⟩:ByteArray))),.val (.int .i64 0),.val (.int .i64 0),.val (.int .i64 0),.val (.int .i64 0),.val (.int .i64 0),.list ([]) .full,.list ([]) .full,.list ([]) .full,.list ([]) .full]] [] (ZcS n a0 a1 m b=some r)) n ⟨0,([]),Rw,ef hs,ef hs,hO,h⟩ ?_
  rintro ml6 e st ⟨b,Xl6,Rl6,rfl,rfl,hO,h⟩ Ul6 Vl6
  cases ml6 with
  | zero=>cases h
  | succ ml6 =>
  rw [ZcS] at h
  refine td hN j k a hO ?_
  apply Zaa;intro K7 l
  refine rg [1,2,4,6,11] hs ?_
  refine cnd h hs (fun hs h=>?_) (fun hs h=>?_)
  rotate_left
  ·
   refine sx [4] hs o ?_
   exact ⟨([]),Rl6,ef hs,ef hs,hO,h⟩
  refine sk [1,2,4,6] hs l ?_
  clear l
  apply Zaa;intro K10 c
  apply Zad
  obtain ⟨u,i,h⟩:=bind_some h
  obtain ⟨q,p,d⟩:=Zan i
  have g:=Zap (f:=ZeF) d
  have hs:=And.intro g hs
  refine rg [1,2,4,6,21] hs ?_
  refine cnd h hs (fun hs h=>?_) (fun hs h=>?_)
  ·
   refine rg [4,5] hs ?_
   exact rt h hs a hO
  refine sk [1,2,4,6] hs c ?_
  clear c
  obtain ⟨t,h⟩:=Zab h
  refine rl [1,2,4,6] hs (fun e s=>Vl6 ml6 e s (Nat.lt_succ_self _)) ?_
  exact ⟨(b+1),([]),Rl6,ef hs,ef hs,hO,h⟩
 ·
  clear h;rintro e st ⟨Xk3,Rk3,rfl,rfl,hO,h⟩
  rw [Zhq] at h
  refine td hN j k a hO ?_
  refine rg [4,5] hs ?_
  exact rt h hs a hO
def Zky (n:Nat)  : Option (Vl × Bool) :=
 some ((Vl.mk 0 0 0 ((⟨#[]⟩:ByteArray)) ([]) ([]),false))
def ZeH (n:Nat) (a0:Vl) (a1:ByteArray):Nat→Int→Option (Vl × Bool)
 | 0,_=>none
 | m+1,x6_l6 =>
  if decide (x6_l6<((a0.fields.length:Int))) then
   (idx a0.fields x6_l6).bind fun x12 =>
   if sEq x12.1 a1 then
    some ((x12.2,true))
   else
    if I64 (x6_l6+1) then
     (ZeH n a0 a1 m) (x6_l6+1)
    else none
  else
   Zky n 
def ZjS (n:Nat) (a0:Vl) (a1:ByteArray):Option (Vl × Bool) :=
 ZeH n a0 a1 n 0
theorem Zsf (w0:World) (n:Nat) (B:List (List AV)) (Rw:List RowA) (L:List LoopA) (a0:Vl) (a1:ByteArray) (r:Vl × Bool) (h:ZjS n a0 a1=some r) :
  ACalls Tryz.prog w0 44 [.agg (a0.cs),.val (.string a1)] ⟨B,Rw,L⟩ fun x st=>x = .tup [.agg (r.1.cs),.val (.bool r.2)]∧st=⟨B,Rw,L⟩:=by
 rw [ZjS] at h
 refine hd [.cell 4 46,.tmp 5] Tryz.func44 Tryz.ntmps44 fun M0 W0 hN j k a hu hO hs=>?_
 simp only [Zaq]
 refine rg [1,2,4] hs ?_
 refine Zak (fun e st=>Ck e st B Rw L [(4,true,.box (B.length+1) 0)] [a0.cs,[.val (.int .i64 0),.val (.int .i64 0),.val (.int .i64 0),.val (.string ((⟨#[]⟩:ByteArray))),.list ([]) .full,.list ([]) .full]] [] (Zky n  = some r)) ?_ ?_
 ·
  intro K4 o
  refine rg [1,2,4,6] hs ?_
  apply Zad
  refine Zao (fun m e st=>∃ (b:Int),Ck e st B Rw L [(1,true,.val (.string a1)),(2,true,.box B.length 0),(4,true,.box (B.length+1) 0),(6,true,.val (.int .i64 b))] [a0.cs,[.val (.int .i64 0),.val (.int .i64 0),.val (.int .i64 0),.val (.string ((⟨#[]⟩:ByteArray))),.list ([]) .full,.list ([]) .full]] [] (ZeH n a0 a1 m b=some r)) n ⟨0,([]),Rw,ef hs,ef hs,hO,h⟩ ?_
  rintro ml6 e st ⟨b,Xl6,Rl6,rfl,rfl,hO,h⟩ Ul6 Vl6
  cases ml6 with
  | zero=>cases h
  | succ ml6 =>
  rw [ZeH] at h
  refine td hN j k a hO ?_
  apply Zaa;intro K7 l
  refine rg [1,2,4,6,11] hs ?_
  refine cnd h hs (fun hs h=>?_) (fun hs h=>?_)
  rotate_left
  ·
   refine sx [4] hs o ?_
   exact ⟨([]),Rl6,ef hs,ef hs,hO,h⟩
  refine sk [1,2,4,6] hs l ?_
  clear l
  apply Zaa;intro K10 c
  apply Zad
  obtain ⟨u,i,h⟩:=bind_some h
  obtain ⟨q,p,d⟩:=Zan i
  have g:=Zap (f:=avF) d
  have hs:=And.intro g hs
  refine rg [1,2,4,6,21] hs ?_
  refine cnd h hs (fun hs h=>?_) (fun hs h=>?_)
  ·
   refine rg [4,5] hs ?_
   exact rt h hs a hO
  refine sk [1,2,4,6] hs c ?_
  clear c
  obtain ⟨t,h⟩:=Zab h
  refine rl [1,2,4,6] hs (fun e s=>Vl6 ml6 e s (Nat.lt_succ_self _)) ?_
  exact ⟨(b+1),([]),Rl6,ef hs,ef hs,hO,h⟩
 ·
  clear h;rintro e st ⟨Xk3,Rk3,rfl,rfl,hO,h⟩
  rw [Zky] at h
  refine td hN j k a hO ?_
  refine rg [4,5] hs ?_
  exact rt h hs a hO
def Zci (a0:Int) (a1:Ty):Bool :=
 (decide (a1.min≤a0))&&(decide (a0≤a1.max))
theorem ZqY (w0:World) (B:List (List AV)) (Rw:List RowA) (L:List LoopA) (a0:Int) (a1:Ty) (r:Bool) (h:Zci a0 a1=r) :
  ACalls Tryz.prog w0 86 [.val (.int .i64 a0),.agg (a1.cs)] ⟨B,Rw,L⟩ fun x st=>x = .val (.bool r)∧st=⟨B,Rw,L⟩:=by
 rw [Zci] at h
 refine hd [.tmp 4] Tryz.func86 Tryz.ntmps86 fun M0 W0 hN b c a hu hO hs=>?_
 simp only [Zaq]
 refine rg [0,3] hs ?_
 refine rg [4] hs ?_
 exact rT h hs a hO
theorem Zft (w0:World) (B:List (List AV)) (Rw:List RowA) (L:List LoopA) (a0:Int) (a1:Ty) :
  ACalls Tryz.prog w0 86 [.val (.int .i64 a0),.agg (a1.cs)] ⟨B,Rw,L⟩ fun x st=>x = .val (.bool (Zci a0 a1))∧st=⟨B,Rw,L⟩:=ZqY w0 B Rw L a0 a1 _ rfl
def ZjF (n:Nat) (a0:ByteArray) (a1:Ty):Option Bool :=
 some ((decide (((a1.words.length:Int))=0))&&(Zci ((a0.size:Int)) a1))
def ZfG (n:Nat) (a0:ByteArray) (a1:Ty):Nat→Int→Option Bool
 | 0,_=>none
 | m+1,x5_l6 =>
  if decide (x5_l6<((a1.words.length:Int))) then
   (idx a1.words x5_l6).bind fun x12 =>
   if sEq x12 a0 then
    some (true)
   else
    if I64 (x5_l6+1) then
     (ZfG n a0 a1 m) (x5_l6+1)
    else none
  else
   ZjF n a0 a1 
def ZkO (n:Nat) (a0:ByteArray) (a1:Ty):Option Bool :=
 ZfG n a0 a1 n 0
theorem ZtC (w0:World) (n:Nat) (B:List (List AV)) (Rw:List RowA) (L:List LoopA) (a0:ByteArray) (a1:Ty) (r:Bool) (h:ZkO n a0 a1=some r) :
  ACalls Tryz.prog w0 87 [.val (.string a0),.agg (a1.cs)] ⟨B,Rw,L⟩ fun x st=>x = .val (.bool r)∧st=⟨B,Rw,L⟩:=by
 rw [ZkO] at h
 refine hd [.tmp 4] Tryz.func87 Tryz.ntmps87 fun M0 W0 hN k l a hu hO hs=>?_
 simp only [Zaq]
 refine rg [0,3] hs ?_
 refine Zak (fun e st=>Ck e st B Rw L [(0,true,.val (.string a0)),(3,true,.box B.length 0)] [a1.cs] [] (ZjF n a0 a1  = some r)) ?_ ?_
 ·
  intro K4 q
  refine rg [0,3,5] hs ?_
  apply Zad
  refine Zao (fun m e st=>∃ (b:Int),Ck e st B Rw L [(0,true,.val (.string a0)),(3,true,.box B.length 0),(5,true,.val (.int .i64 b))] [a1.cs] [] (ZfG n a0 a1 m b=some r)) n ⟨0,([]),Rw,ef hs,ef hs,hO,h⟩ ?_
  rintro ml6 e st ⟨b,Xl6,Rl6,rfl,rfl,hO,h⟩ Ul6 Vl6
  cases ml6 with
  | zero=>cases h
  | succ ml6 =>
  rw [ZfG] at h
  refine td hN k l a hO ?_
  apply Zaa;intro K7 o
  refine rg [0,3,5,10] hs ?_
  refine cnd h hs (fun hs h=>?_) (fun hs h=>?_)
  rotate_left
  ·
   refine sx [0,3] hs q ?_
   exact ⟨([]),Rl6,ef hs,ef hs,hO,h⟩
  refine sk [0,3,5] hs o ?_
  clear o
  apply Zaa;intro K10 c
  apply Zad
  obtain ⟨w,j,h⟩:=bind_some h
  obtain ⟨u,t,g⟩:=Zan j
  have i:=Zap (f:=avS) g
  have hs:=And.intro i hs
  refine rg [0,3,5,19] hs ?_
  refine cnd h hs (fun hs h=>?_) (fun hs h=>?_)
  ·
   refine rg [4] hs ?_
   exact rt h hs a hO
  refine sk [0,3,5] hs c ?_
  clear c
  obtain ⟨v,h⟩:=Zab h
  refine rl [0,3,5] hs (fun e s=>Vl6 ml6 e s (Nat.lt_succ_self _)) ?_
  exact ⟨(b+1),([]),Rl6,ef hs,ef hs,hO,h⟩
 ·
  clear h;rintro e st ⟨Xk3,Rk3,rfl,rfl,hO,h⟩
  rw [ZjF] at h
  refine td hN k l a hO ?_
  have p:=And.intro and_self @imp_self
  have hs:=And.intro p hs
  refine rc 2 [4] hs ?_;intro K16 d
  refine Zdv _ (fun _=>Zft w0 _ _ _ ((a0.size:Int)) a1) (hv hs) ?_
  refine ne hs d ?_
  clear d
  exact rt h hs a hO
def Zcw (a0:Int × ByteArray × Int × Ty × List Vl) (a1:ByteArray):Bool :=
 sEq a0.2.1 a1
theorem Zk7 (w0:World) (B:List (List AV)) (Rw:List RowA) (L:List LoopA) (a0:Int × ByteArray × Int × Ty × List Vl) (la1:Nat) (a1:ByteArray) (hla1:B[la1]? = some ([.val (.string a1)])) (r:Bool) (h:Zcw a0 a1=r) :
  ACalls Tryz.prog w0 203 [.agg (.val (.int .i64 a0.1)::(.val (.string a0.2.1)::(.val (.int .i64 a0.2.2.1)::((a0.2.2.2.1.cs)++([.list (a0.2.2.2.2.map avV) .none]))))),.box la1 0] ⟨B,Rw,L⟩ fun x st=>x = .val (.bool r)∧st=⟨B,Rw,L⟩:=by
 rw [Zcw] at h
 refine hd [.tmp 3] Tryz.func203 Tryz.ntmps203 fun M0 W0 hN c d a hu hO hs=>?_
 simp only [Zaq]
 have b:=(List.getElem?_eq_some_iff.1 hla1).1
 have hs:=And.intro (Zag hla1) hs
 refine rg [1,2] hs ?_
 refine rg [3] hs ?_
 exact rT h hs a hO
theorem Zku (w0:World) (B:List (List AV)) (Rw:List RowA) (L:List LoopA) (a0:Int × ByteArray × Int × Ty × List Vl) (la1:Nat) (a1:ByteArray) (hla1:B[la1]? = some ([.val (.string a1)])) :
  ACalls Tryz.prog w0 203 [.agg (.val (.int .i64 a0.1)::(.val (.string a0.2.1)::(.val (.int .i64 a0.2.2.1)::((a0.2.2.2.1.cs)++([.list (a0.2.2.2.2.map avV) .none]))))),.box la1 0] ⟨B,Rw,L⟩ fun x st=>x = .val (.bool (Zcw a0 a1))∧st=⟨B,Rw,L⟩:=Zk7 w0 B Rw L a0 la1 a1 hla1 _ rfl
def ZbM (n:Nat) (a0:Ty) (a1:ByteArray):Option ((Int × ByteArray × Int × Ty × List Vl) × Bool) :=
 (Zay n a0.fields (fun (x0:Int × ByteArray × Int × Ty × List Vl)=>some (Zcw x0 a1))).bind fun y3 =>
 if decide (y3<0) then
  some (((0,(⟨#[]⟩:ByteArray),0,Ty.mk 0 0 0 0 ([]) ([]) ([]),[]),false))
 else
  (idx a0.fields y3).bind fun x9 =>
  some ((x9,true))
theorem Zdr (w0:World) (n:Nat) (B:List (List AV)) (Rw:List RowA) (L:List LoopA) (a0:Ty) (a1:ByteArray) (r:(Int × ByteArray × Int × Ty × List Vl) × Bool) (h:ZbM n a0 a1=some r) :
  ACalls Tryz.prog w0 159 [.agg (a0.cs),.val (.string a1)] ⟨B,Rw,L⟩ fun x st=>x = .tup [.agg (.val (.int .i64 r.1.1)::(.val (.string r.1.2.1)::(.val (.int .i64 r.1.2.2.1)::((r.1.2.2.2.1.cs)++([.list (r.1.2.2.2.2.map avV) .none]))))),.val (.bool r.2)]∧st=⟨B,Rw,L⟩:=by
 rw [ZbM] at h
 refine hd [.cell 4 54,.tmp 5] Tryz.func159 Tryz.ntmps159 fun M0 W0 hN l o a hu hO hs=>?_
 simp only [Zaq]
 refine rg [2,3,4] hs ?_
 obtain ⟨y3,hy3,h⟩:=bind_some h
 refine rc 2 [2,4,6] hs ?_;intro K2 c
 refine Zac _ (ZbY w0 n _ _ _ a0.fields 203 [.box (B.length+1) 0] (fun (x0:Int × ByteArray × Int × Ty × List Vl)=>some (Zcw x0 a1)) (fun x0 r hx B' i hB' m=>by cases hx;exact Zku w0 _ _ _ x0 _ a1 (ZcE hB' ev)) _ hy3) (hv hs) ?_
 refine ne hs c ?_
 clear c
 apply Zaa;intro K4 b
 refine rg [2,4,6,12] hs ?_
 refine cnd h hs (fun hs h=>?_) (fun hs h=>?_)
 ·
  refine rg [4,5] hs ?_
  exact rt h hs a hO
 refine sk [2,4,6] hs b ?_
 clear b
 obtain ⟨x9,g,h⟩:=bind_some h
 obtain ⟨j,k,e⟩:=Zan g
 have d:=Zap (f:=ZeF) e
 have hs:=And.intro d hs
 refine rg [4,5] hs ?_
 exact rt h hs a hO
abbrev nilV:Vl:=Vl.mk 0 0 0 (⟨#[]⟩:ByteArray) [] []
def ZoD (l:List TF) (k:Int):Option TF:=l.find? fun p=>decide (p.1=k)
def ZfB (v:Vl) (w:ByteArray):Option Vl:=(v.fields.find? fun q=>sEq q.1 w).map (·.2)
theorem Zpc {α β:Type} (p:α→Bool) (l:List α) (A:β) (B:α→Option β):(if decide (ffI p l 0<0)=true then some A else (idx l (ffI p l 0)).bind B)=match l.find? p with | none=>some A | some x=>B x:=by
 rw [ZrN,←Zmx]
 cases h:l.find? p with
 | none=>rw [if_pos];simpa [List.find?_eq_none] using h
 | some x =>
  rw [if_neg];rfl
  have:=List.find?_some h
  have:=List.mem_of_find?_eq_some h
  simp only [Bool.not_eq_true',Bool.not_eq_false]
  exact List.any_eq_true.2 ⟨x,this,by assumption⟩
theorem ixTF (n:Nat) (l:List TF) (f:TF→Option Bool) (p:TF→Bool) (hf:∀ x,f x=some (p x)) (hl:l.length≤1000000000) (hn:l.length<n):Zay n l f=some (ffI p l 0):=Zvp n l f p (fun x _=>hf x) hl l.length n 0 (by omega) hn
theorem ZuL (n:Nat) (l:List TF) (k:Int) (hl:l.length≤1000000000) (hn:l.length<n):Zb0 n l k=some ((ZoD l k).getD ZkP,(ZoD l k).isSome):=by
 rw [Zb0,ixTF n l (fun x0=>some (Zc4 x0 k)) (fun p=>decide (p.1=k)) (fun x=>rfl) hl hn,Option.bind_some,Zpc (fun p:TF=>decide (p.1=k))]
 rw [ZoD]
 cases l.find? (fun p:TF=>decide (p.1=k))<;>rfl
theorem Zhm (n:Nat) (t:Ty) (w:ByteArray) (hl:t.fields.length≤1000000000) (hn:t.fields.length<n):ZbM n t w=some ((Zce t w).getD ZkP,(Zce t w).isSome):=by
 rw [ZbM,ixTF n t.fields (fun x0=>some (Zcw x0 w)) (fun p=>sEq p.2.1 w) (fun x=>rfl) hl hn,Option.bind_some,Zpc (fun p:TF=>sEq p.2.1 w)]
 rw [Zce]
 cases t.fields.find? (fun p:TF=>sEq p.2.1 w)<;>rfl
theorem ixVF (n:Nat) (l:List (ByteArray × Vl)) (f:ByteArray × Vl→Option Bool) (p:ByteArray × Vl→Bool) (hf:∀ x,f x=some (p x)) (hl:l.length≤1000000000) (hn:l.length<n):Zbp n l f=some (ffI p l 0):=Ztm n l f p (fun x _=>hf x) hl l.length n 0 (by omega) hn
theorem ZsJ (n:Nat) (v:Vl) (w:ByteArray) (hk:v.kind=9) (hl:v.fields.length≤1000000000) (hn:v.fields.length<n) (hc:∀ q∈v.fields,Zbi n q.2=some q.2):Zfw n v w=some ((ZfB v w).getD nilV,(ZfB v w).isSome):=by
 rw [Zfw,Zjt,ixVF n v.fields (fun x0=>some (ZeJ x0 w)) (fun q=>sEq q.1 w) (fun x=>rfl) hl hn]
 simp only [Option.bind_some]
 rw [show ((!decide (v.kind=9))||decide (ffI (fun q:ByteArray × Vl=>sEq q.1 w) v.fields 0<0))=decide (ffI (fun q:ByteArray × Vl=>sEq q.1 w) v.fields 0<0) by simp [hk],Zpc (fun q:ByteArray × Vl=>sEq q.1 w),ZfB]
 cases h:v.fields.find? (fun q:ByteArray × Vl=>sEq q.1 w) with
 | none=>rfl
 | some q =>
  have hm:=List.mem_of_find?_eq_some h
  simp only [hc q hm,Option.bind_some]
  rfl
theorem ZnR (n:Nat) (t:Ty) (k:Int) (hl:t.fields.length≤1000000000):∀ (c m i:Nat),i+c=t.fields.length→c<m→ZcS n t k m i=some ((ZoD (t.fields.drop i) k).getD ZkP,(ZoD (t.fields.drop i) k).isSome)
 | c,0,i,_,h=>absurd h (Nat.not_lt_zero _)
 | 0,m+1,i,hi,_=>by
  rw [ZcS,Zal,decide_eq_false (by omega),List.drop_eq_nil_of_le (by omega)];rfl
 | c+1,m+1,i,hi,hm=>by
  have a:i<t.fields.length:=by omega
  rw [ZcS,Zal,decide_eq_true a,if_pos rfl,Zam a,Option.bind_some,List.drop_eq_getElem_cons a,ZoD,List.find?_cons]
  by_cases q:t.fields[i].1=k
  ·
   rw [decide_eq_true q,if_pos rfl];rfl
  ·
   rw [decide_eq_false q,if_neg (by decide),if_pos (Zaj (by omega))]
   exact ZnR n t k hl c m (i+1) (by omega) (by omega)
theorem Zm7 (n:Nat) (t:Ty) (k:Int) (hl:t.fields.length≤1000000000) (hn:t.fields.length<n):Zfx n t k=some ((ZoD t.fields k).getD ZkP,(ZoD t.fields k).isSome):=ZnR n t k hl t.fields.length n 0 (by omega) hn
theorem ZqE (n:Nat) (v:Vl) (w:ByteArray) (hl:v.fields.length≤1000000000):∀ (c m i:Nat),i+c=v.fields.length→c<m→ZeH n v w m i=some ((((v.fields.drop i).find? fun q=>sEq q.1 w).map (·.2)).getD nilV,(((v.fields.drop i).find? fun q=>sEq q.1 w).map (·.2)).isSome)
 | c,0,i,_,h=>absurd h (Nat.not_lt_zero _)
 | 0,m+1,i,hi,_=>by
  rw [ZeH,Zal,decide_eq_false (by omega),List.drop_eq_nil_of_le (by omega)];rfl
 | c+1,m+1,i,hi,hm=>by
  have a:i<v.fields.length:=by omega
  rw [ZeH,Zal,decide_eq_true a,if_pos rfl,Zam a,Option.bind_some,List.drop_eq_getElem_cons a,List.find?_cons]
  cases q:sEq v.fields[i].1 w with
  | true=>rw [if_pos rfl];rfl
  | false =>
   rw [if_neg (by decide),if_pos (Zaj (by omega))]
   exact ZqE n v w hl c m (i+1) (by omega) (by omega)
theorem ZvK (n:Nat) (v:Vl) (w:ByteArray) (hl:v.fields.length≤1000000000) (hn:v.fields.length<n):ZjS n v w=some ((ZfB v w).getD nilV,(ZfB v w).isSome):=ZqE n v w hl v.fields.length n 0 (by omega) hn
def btw (n:Int) (t:Ty):Bool:=decide (t.min≤n)&&decide (n≤t.max)
def ZrX (s:ByteArray) (t:Ty):Bool:=if t.words=[] then btw s.size t else t.words.any fun x=>sEq x s
theorem ZuK (n:Nat) (s:ByteArray) (t:Ty) (hl:t.words.length≤1000000000):∀ (c m i:Nat),i+c=t.words.length→c<m→ZfG n s t m i=some (((t.words.drop i).any fun x=>sEq x s)||(decide (t.words.length=0)&&btw s.size t))
 | c,0,i,_,h=>absurd h (Nat.not_lt_zero _)
 | 0,m+1,i,hi,_=>by
  rw [ZfG,Zal,decide_eq_false (by omega),List.drop_eq_nil_of_le (by omega),if_neg (by decide),ZjF,Zci,btw,List.any_nil,Bool.false_or,show decide ((t.words.length:Int)=0)=decide (t.words.length=0) by rw [decide_eq_decide];omega]
 | c+1,m+1,i,hi,hm=>by
  have a:i<t.words.length:=by omega
  rw [ZfG,Zal,decide_eq_true a,if_pos rfl,Zam a,Option.bind_some,List.drop_eq_getElem_cons a,List.any_cons]
  cases q:sEq t.words[i] s with
  | true=>rw [if_pos rfl];rfl
  | false =>
   rw [if_neg (by decide),if_pos (Zaj (by omega)),Bool.false_or]
   exact ZuK n s t hl c m (i+1) (by omega) (by omega)
theorem ZzW (n:Nat) (s:ByteArray) (t:Ty) (hl:t.words.length≤1000000000) (hn:t.words.length<n):ZkO n s t=some (ZrX s t):=by
 refine (ZuK n s t hl t.words.length n 0 (by omega) hn).trans ?_
 rw [List.drop_zero,ZrX]
 cases h:t.words with
 | nil=>simp
 | cons a r=>simp
theorem Zyg (a b:ByteArray):sEq a b=sEq b a:=by
 cases h:sEq b a with
 | true=>rw [(Zfe _ _).1 h];exact ZpT _
 | false =>
  cases h2:sEq a b with
  | false=>rfl
  | true=>rw [(Zfe _ _).1 h2,ZpT] at h;cases h
theorem Zk3 (n:Nat) (s:ByteArray) (t:Ty) (hl:t.words.length≤1000000000) (hn:t.words.length<n):ZaR n t.words s=some (t.words.any fun x=>sEq x s):=by
 rw [Zl5 n t.words s hl hn]
 congr 2
 funext x
 exact Zyg _ _
def upN:Nat→Int→Option Int
 | 0,x=>some x
 | k+1,x=>if -999999999999999≤x*10∧x*10≤999999999999999 then upN k (x*10) else none
def dnN:Nat→Int→Option Int
 | 0,x=>some x
 | k+1,x=>if x.tmod 10=0 then dnN k (x.tdiv 10) else none
def ZxY (x a b:Int):Option Int:=if a≤b then upN (b-a).toNat x else dnN (a-b).toNat x
theorem ZyJ {x:Int} (h : -999999999999999≤x∧x≤999999999999999) : -999999999999999≤x.tdiv 10∧x.tdiv 10≤999999999999999:=by
 rcases Int.le_total 0 x with q | q
 ·
  rw [Int.tdiv_eq_ediv_of_nonneg q];omega
 ·
  obtain ⟨z,rfl⟩:∃ z,x = -z:=⟨-x,by omega⟩
  rw [Int.neg_tdiv,Int.tdiv_eq_ediv_of_nonneg (by omega)];omega
theorem ZpI (n:Nat) (b:Int):∀ (k m:Nat) (x a:Int),-999999999999999≤x∧x≤999999999999999 → -200≤a→a≤100→a-b≤k→b≤a → -100≤b→k<m→ZbL n b m x a=some ((dnN (a-b).toNat x).getD 0,(dnN (a-b).toNat x).isSome)
 | k,0,x,a,_,_,_,_,_,_,h=>absurd h (Nat.not_lt_zero _)
 | 0,m+1,x,a,hx,h0,h1,hk,hb,hb2,_=>by
  rw [ZbL,decide_eq_false (by omega),if_neg (by decide),show (a-b).toNat=0 by omega];rfl
 | k+1,m+1,x,a,hx,h0,h1,hk,hb,hb2,hm=>by
  rw [ZbL]
  by_cases q:b<a
  ·
   obtain ⟨j,hj⟩:∃ j,(a-b).toNat=j+1:=⟨(a-b).toNat-1,by omega⟩
   rw [decide_eq_true q,if_pos rfl,hj,dnN]
   by_cases c:x.tmod 10=0
   ·
    have ht:=ZyJ hx
    rw [decide_eq_true c,if_neg (by decide),if_pos c,if_pos (by unfold I64;omega),if_pos (by unfold I64;omega),ZpI n b k m (x.tdiv 10) (a-1) ht (by omega) (by omega) (by omega) (by omega) hb2 (by omega),show (a-1-b).toNat=j by omega]
   ·
    rw [decide_eq_false c,if_pos (by rfl),if_neg c];rfl
  ·
   rw [decide_eq_false q,if_neg (by decide),show (a-b).toNat=0 by omega];rfl
theorem ZyK (n:Nat) (b:Int):∀ (k m:Nat) (x a:Int),-999999999999999≤x∧x≤999999999999999→0≤a→a≤100→b-a≤k→a≤b→b≤100→k<m→200<n→ZbD n b m x a=some ((upN (b-a).toNat x).getD 0,(upN (b-a).toNat x).isSome)
 | k,0,x,a,_,_,_,_,_,_,h,_=>absurd h (Nat.not_lt_zero _)
 | 0,m+1,x,a,hx,h0,h1,hk,hb,hb2,_,hn=>by
  rw [ZbD,decide_eq_false (by omega),if_neg (by decide),show (b-a).toNat=0 by omega,Zcv,ZpI n b 0 n x a hx (by omega) h1 (by omega) (by omega) (by omega) (by omega),show (a-b).toNat=0 by omega];rfl
 | k+1,m+1,x,a,hx,h0,h1,hk,hb,hb2,hm,hn=>by
  rw [ZbD]
  by_cases q:a<b
  ·
   obtain ⟨j,hj⟩:∃ j,(b-a).toNat=j+1:=⟨(b-a).toNat-1,by omega⟩
   rw [decide_eq_true q,if_pos rfl,hj,upN,if_pos (by unfold I64;omega)]
   by_cases c : -999999999999999≤x*10∧x*10≤999999999999999
   ·
    rw [decide_eq_false (by omega),decide_eq_false (by omega),if_neg (by decide),if_pos c,if_pos (by unfold I64;omega),ZyK n b k m (x*10) (a+1) c (by omega) (by omega) (by omega) (by omega) hb2 (by omega) hn,show (b-(a+1)).toNat=j by omega]
   ·
    rw [if_pos (by rw [Bool.or_eq_true,decide_eq_true_eq,decide_eq_true_eq];omega),if_neg c];rfl
  ·
   rw [decide_eq_false q,if_neg (by decide),show (b-a).toNat=0 by omega,Zcv,ZpI n b 0 n x a hx (by omega) h1 (by omega) (by omega) (by omega) (by omega),show (a-b).toNat=0 by omega];rfl
theorem Zt5 (n:Nat) (x a b:Int) (hx : -999999999999999≤x∧x≤999999999999999) (ha:0≤a∧a≤100) (hb:0≤b∧b≤100) (hn:200<n):ZbR n x a b=some ((ZxY x a b).getD 0,(ZxY x a b).isSome):=by
 rw [ZbR,ZxY]
 by_cases q:a≤b
 ·
  rw [if_pos q,ZyK n b 100 n x a hx ha.1 ha.2 (by omega) q hb.2 (by omega) hn]
 ·
  rw [if_neg q]
  obtain ⟨m,rfl⟩:∃ m,n=m+1:=⟨n-1,by omega⟩
  rw [ZbD,decide_eq_false (by omega),if_neg (by decide),Zcv,ZpI _ b 100 _ x a hx (by omega) ha.2 (by omega) (by omega) (by omega) (by omega)]
def shOk (o:Option Int) (y:Int × Bool):Prop:=match o with | some m=>y=(m,true) | none=>y.2=false∨(y.2=true∧(999999999999999<y.1∨y.1 < -999999999999999))
theorem Zs2 (n:Nat):∀ (k m:Nat) (x d:Int),-999999999999999≤x∧x≤999999999999999 → -d≤k→d≤0 → -100≤d→k<m→Zde n m x d=some ((dnN (-d).toNat x).getD 0,(dnN (-d).toNat x).isSome)
 | k,0,x,d,_,_,_,_,h=>absurd h (Nat.not_lt_zero _)
 | 0,m+1,x,d,hx,h0,h1,h2,_=>by
  rw [Zde,decide_eq_false (by omega),if_neg (by decide),show (-d).toNat=0 by omega];rfl
 | k+1,m+1,x,d,hx,h0,h1,h2,hm=>by
  rw [Zde]
  by_cases q:d<0
  ·
   obtain ⟨j,hj⟩:∃ j,(-d).toNat=j+1:=⟨(-d).toNat-1,by omega⟩
   rw [decide_eq_true q,if_pos rfl,hj,dnN]
   by_cases c:x.tmod 10=0
   ·
    have ht:=ZyJ hx
    rw [decide_eq_true c,if_neg (by decide),if_pos c,if_pos (by unfold I64;omega),if_pos (by unfold I64;omega),Zs2 n k m (x.tdiv 10) (d+1) ht (by omega) (by omega) (by omega) (by omega),show (-(d+1)).toNat=j by omega]
   ·
    rw [decide_eq_false c,if_pos (by rfl),if_neg c];rfl
  ·
   rw [decide_eq_false q,if_neg (by decide),show (-d).toNat=0 by omega];rfl
theorem ZB0 (n:Nat) (hn:200<n):∀ (k m:Nat) (x d:Int),-999999999999999≤x∧x≤999999999999999→d≤k→0≤d→d≤100→k<m→∃ y,Zdf n m x d=some y∧shOk (upN d.toNat x) y
 | k,0,x,d,_,_,_,_,h=>absurd h (Nat.not_lt_zero _)
 | 0,m+1,x,d,hx,h0,h1,h2,_=>by
  rw [Zdf,decide_eq_false (by omega),if_neg (by decide),show d.toNat=0 by omega,ZeM,Zs2 n 0 n x d hx (by omega) (by omega) (by omega) (by omega),show (-d).toNat=0 by omega]
  exact ⟨_,rfl,rfl⟩
 | k+1,m+1,x,d,hx,h0,h1,h2,hm=>by
  rw [Zdf]
  by_cases q:0<d
  ·
   obtain ⟨j,hj⟩:∃ j,d.toNat=j+1:=⟨d.toNat-1,by omega⟩
   rw [decide_eq_true q,if_pos rfl,hj,upN,decide_eq_false (by omega),decide_eq_false (by omega),if_neg (by decide),if_pos (by unfold I64;omega),if_pos (by unfold I64;omega),Int.mul_comm 10 x]
   by_cases c : -999999999999999≤x*10∧x*10≤999999999999999
   ·
    rw [if_pos c]
    obtain ⟨y,h3,h4⟩:=ZB0 n hn k m (x*10) (d-1) c (by omega) (by omega) (by omega) (by omega)
    rw [show (d-1).toNat=j by omega] at h4
    exact ⟨y,h3,h4⟩
   ·
    rw [if_neg c]
    obtain ⟨m,rfl⟩:∃ q,m=q+1:=⟨m-1,by omega⟩
    rw [Zdf]
    by_cases q2:0<d-1
    ·
     rw [decide_eq_true q2,if_pos rfl,if_pos (by rw [Bool.or_eq_true,decide_eq_true_eq,decide_eq_true_eq];omega)]
     exact ⟨_,rfl,.inr ⟨rfl,by simp only;omega⟩⟩
    ·
     rw [decide_eq_false q2,if_neg (by decide),ZeM]
     obtain ⟨n,rfl⟩:∃ q,n=q+1:=⟨n-1,by omega⟩
     rw [Zde,decide_eq_false (by omega),if_neg (by decide)]
     exact ⟨_,rfl,.inr ⟨rfl,by simp only;omega⟩⟩
  ·
   rw [decide_eq_false q,if_neg (by decide),show d.toNat=0 by omega,ZeM,Zs2 n 0 n x d hx (by omega) (by omega) (by omega) (by omega),show (-d).toNat=0 by omega]
   exact ⟨_,rfl,rfl⟩
theorem Zx0 (n:Nat) (x a b:Int) (hx : -999999999999999≤x∧x≤999999999999999) (ha:0≤a∧a≤100) (hb:0≤b∧b≤100) (hn:200<n):∃ y,ZgL n x (b-a)=some y∧shOk (ZxY x a b) y:=by
 rw [ZgL,ZxY]
 by_cases q:a≤b
 ·
  rw [if_pos q]
  exact ZB0 n hn 100 n x (b-a) hx (by omega) (by omega) (by omega) (by omega)
 ·
  rw [if_neg q]
  obtain ⟨m,rfl⟩:∃ m,n=m+1:=⟨n-1,by omega⟩
  rw [Zdf,decide_eq_false (by omega),if_neg (by decide),ZeM,Zs2 _ 100 _ x (b-a) hx (by omega) (by omega) (by omega) (by omega),show (-(b-a)).toNat=(a-b).toNat by omega]
  refine ⟨_,rfl,?_⟩
  cases h:dnN (a-b).toNat x with
  | none=>exact .inl rfl
  | some m=>rfl
theorem Zl9:∀ a b:List UInt8,Op.bytesLess a b=decide (cbL a b<0)
 | [],[]=>rfl
 | _::_,[]=>rfl
 | [],_::_=>rfl
 | x::a,y::b=>by
  have ih:=Zl9 a b
  simp only [Op.bytesLess,cbL,Lib.compareBytes] at *
  by_cases h1:x<y
  ·
   simp [h1]
  ·
   by_cases h2:y<x
   ·
    have:¬ x=y:=fun e=>by rw [e] at h2;exact UInt8.lt_irrefl _ h2
    simp [h1,h2,this]
   ·
    have:x=y:=by
     rw [UInt8.lt_iff_toNat_lt] at h1 h2
     exact UInt8.toNat.inj (by omega)
    subst this
    simp [h1,ih]
theorem Zv8 (x y:ByteArray):sLt x y=decide (Zg9 x y<0):=Zl9 _ _
theorem Znv (x y:ByteArray):Zg9 y x = - Zg9 x y:=ZnO _ _
theorem ZuT (x:ByteArray):Zg9 x x=0:=Zpu _
theorem ZnI {x y z:ByteArray} (h1:Zg9 x y<0) (h2:Zg9 y z<0):Zg9 x z<0:=(Zmy _ _ _ (Int.le_of_lt h1) (Int.le_of_lt h2)).2 (.inl h1)
def SS (l:List (ByteArray × Vl)):Prop:=l.Pairwise fun p q=>Zg9 p.1 q.1<0
theorem ZqS:∀ (l m:List (ByteArray × Vl)),l.Perm m→SS l→SS m→l=m
 | [],m,h,_,_=>(List.nil_perm.1 h).symm▸rfl
 | p::l,[],h,_,_=>absurd h.length_eq (by simp)
 | p::l,q::m,h,h1,h2=>by
  obtain ⟨a1,a2⟩:=List.pairwise_cons.1 h1
  obtain ⟨b1,b2⟩:=List.pairwise_cons.1 h2
  have e:p=q:=by
   have hp:p∈q::m:=h.mem_iff.1 (List.mem_cons_self ..)
   have hq:q∈p::l:=h.mem_iff.2 (List.mem_cons_self ..)
   rcases List.mem_cons.1 hp with e | hp
   ·
    exact e
   rcases List.mem_cons.1 hq with e | hq
   ·
    exact e.symm
   have x1:=b1 p hp
   have x2:=a1 q hq
   have:=Znv p.1 q.1
   omega
  subst e
  rw [ZqS l m ((List.perm_cons _).1 h) a2 b2]
theorem Zoa {α:Type} (d:α):∀ xs:List α,(List.range xs.length).map (fun i=>xs.getD i d)=xs:=fun xs=>by
 apply List.ext_getElem
 ·
  simp
 ·
  intro i h1 h2
  simp [List.getD,List.getElem?_eq_getElem h2]
theorem ZhU (l:List (ByteArray × Vl)):(Zcn l).Perm l:=by
 have h:=((ZjX (fun i=>(l.getD i Zp3).1) l.length).1).map fun i=>l.getD i Zp3
 rw [Zoa] at h
 exact h
theorem ZpJ (l:List (ByteArray × Vl)) (hd:(l.map Prod.fst).Nodup):SS (Zcn l):=by
 have hp:=ZhU l
 have hl:=ZdP l
 have hn:((Zcn l).map Prod.fst).Nodup:=(hp.map Prod.fst).nodup_iff.2 hd
 unfold SS
 rw [List.pairwise_iff_getElem]
 intro i j hi hj a
 have h2:=(ZjX (fun i=>(l.getD i Zp3).1) l.length).2 i j a (by omega)
 have c:(Zid (fun i=>(l.getD i Zp3).1) l.length).length=l.length:=ZeY _ _
 have g:∀ k (hk:k<(Zcn l).length),(Zcn l)[k].1=(l.getD ((Zid (fun i=>(l.getD i Zp3).1) l.length)[k]!) Zp3).1:=fun k hk=>by
  have b:k<(Zid (fun i=>(l.getD i Zp3).1) l.length).length:=by omega
  rw [getElem!_pos _ k b]
  show ((Zlp Prod.fst Zp3 l)[k]'hk).1=_
  simp only [Zlp,List.getElem_map]
 rw [g i hi,g j hj]
 have ne:(Zcn l)[i].1≠(Zcn l)[j].1:=by
  have:=List.pairwise_iff_getElem.1 hn i j (by simpa using hi) (by simpa using hj) a
  simpa using this
 rw [g i hi,g j hj] at ne
 have sw:=Znv (l.getD ((Zid (fun i=>(l.getD i Zp3).1) l.length)[i]!) Zp3).1 (l.getD ((Zid (fun i=>(l.getD i Zp3).1) l.length)[j]!) Zp3).1
 have nz:Zg9 (l.getD ((Zid (fun i=>(l.getD i Zp3).1) l.length)[i]!) Zp3).1 (l.getD ((Zid (fun i=>(l.getD i Zp3).1) l.length)[j]!) Zp3).1≠0:=fun q=>ne ((ZhW _ _).1 q)
 change ¬ Zg9 _ _<0 at h2
 omega
theorem ZvL (n:Nat) (l:List (ByteArray × Vl)) (hl:l.length≤1000000) (hn:l.length<n) (hnul:∀ p∈l,Za8 p.2=false) (hd:(l.map Prod.fst).Nodup):∀ (k m i:Nat),i+k=l.length→k<m→ZcO n l m i (l.take i)=ZgS n l
 | k,0,i,_,h=>absurd h (Nat.not_lt_zero _)
 | 0,m+1,i,hi,_=>by
  rw [ZcO,Zal,decide_eq_false (by omega),List.take_of_length_le (by omega)]
  rfl
 | k+1,m+1,i,hi,hm=>by
  have a:i<l.length:=by omega
  have hz:¬ (((l.length:Nat):Int)<(i:Int)+1):=by omega
  rw [ZcO,Zal,decide_eq_true a]
  rw [if_pos rfl,Zam a,Option.bind_some]
  rw [if_pos (Zaj (by omega)),if_pos (by omega)]
  have e1:((i:Int)+1).toNat=i+1:=by omega
  have hc:ZbN n (l.drop (i+1)) (fun x0=>some (Zcr x0 l[i]))=some false:=by
   rw [ZbN,Zbp]
   have e:=Ztm n (l.drop (i+1)) (fun x0=>some (Zcr x0 l[i])) (fun x0=>Zcr x0 l[i]) (fun _ _=>rfl) (by rw [List.length_drop];omega) (l.drop (i+1)).length n 0 (by omega) (by rw [List.length_drop];omega)
   have e':ZaZ n (l.drop (i+1)) (fun x0=>some (Zcr x0 l[i])) n 0=_:=e
   rw [e',Option.bind_some,ZlI]
   congr 1
   rw [List.any_eq_false]
   intro p hp
   rw [Zcr]
   have ne:¬ sEq p.1 l[i].1=true:=by
    rw [Zfe]
    intro q
    obtain ⟨j,hj,rfl⟩:=List.mem_iff_getElem.1 hp
    rw [List.length_drop] at hj
    have:=List.pairwise_iff_getElem.1 hd i (i+1+j) (by simpa using a) (by simp;omega) (by omega)
    apply this
    simp only [List.getElem_map]
    rw [List.getElem_drop] at q
    exact q.symm
   simp [Bool.eq_false_iff.2 ne]
  rw [e1,hc,Option.bind_some,hnul _ (List.getElem_mem a)]
  rw [if_pos (by rfl),if_pos (by rw [List.length_take];omega),Zgg,if_pos (Zaj (by omega))]
  have e:l.take i++[l[i]]=l.take (i+1):=by rw [List.take_succ_eq_append_getElem a]
  rw [e]
  exact ZvL n l hl hn hnul hd k m (i+1) (by omega) (by omega)
theorem Zv9 {b:List (ByteArray × Vl)} (hb:SS b) (x:ByteArray × Vl) (hx:∀ p∈b,p.1≠x.1) {j:Nat} (h1:∀ p∈b.take j,Zg9 p.1 x.1<0) (h2:∀ h:j<b.length,¬ Zg9 b[j].1 x.1<0):SS (b.take j++[x]++b.drop j):=by
 unfold SS at *
 rw [List.append_assoc,List.singleton_append]
 have a:=hb
 rw [←List.take_append_drop j b] at a
 obtain ⟨s1,s2,s3⟩:=List.pairwise_append.1 a
 have hd:∀ q∈b.drop j,Zg9 x.1 q.1<0:=by
  by_cases hj:j<b.length
  ·
   have e:=List.drop_eq_getElem_cons hj
   rw [e] at s2 ⊢
   obtain ⟨t1,t2⟩:=List.pairwise_cons.1 s2
   have g:Zg9 x.1 b[j].1<0:=by
    have:=h2 hj
    have sw:=Znv b[j].1 x.1
    have nz:Zg9 b[j].1 x.1≠0:=fun q=>hx _ (List.getElem_mem hj) ((ZhW _ _).1 q)
    omega
   intro q hq
   rcases List.mem_cons.1 hq with rfl | hq
   ·
    exact g
   ·
    exact ZnI g (t1 q hq)
  ·
   rw [List.drop_eq_nil_of_le (by omega)];simp
 refine List.pairwise_append.2 ⟨s1,List.pairwise_cons.2 ⟨hd,s2⟩,fun p hp q hq=>?_⟩
 rcases List.mem_cons.1 hq with rfl | hq
 ·
  exact h1 p hp
 ·
  exact s3 p hp q hq
theorem Zju {B:List (List AV)} {l:Nat} {cs:List AV} (h:B[l]? = some cs) (i:Nat):∀ (X:List (List AV)) (c c':List AV),(B.set i c++X).set l c'=(B.set i c).set l c'++X:=fun X c c'=>List.set_append_left _ _ (by rw [List.length_set];exact (List.getElem?_eq_some_iff.1 h).1)
theorem Zai {B:List (List AV)} {l:Nat} {c:List AV} (h:B[l]? = some c):B.set l c=B:=by
 apply List.ext_getElem?
 intro i
 by_cases q:l=i
 ·
  subst q
  rw [List.getElem?_set_self (List.getElem?_eq_some_iff.1 h).1,h]
 ·
  rw [List.getElem?_set_ne q]
@[go_sem] theorem ZxP (xs ys:List AV):Zrj Tryz.prog .eql 106 xs ys=(obK [(none,true),(some .i64,false)] xs ys,ZpQ xs ys):=Zvk (by kernel_rfl) xs ys
@[go_sem] theorem ZAF:ZiU Tryz.prog 122 0=some (0,1,false):=by kernel_rfl
@[go_sem] theorem ZAL:ZiU Tryz.prog 122 1=some (1,1,false):=by kernel_rfl
@[go_sem] theorem ZzL:ZeS Tryz.prog 119=some [(0,1),(1,1)]:=by kernel_rfl
@[go_sem] theorem ZCQ:tyT Tryz.prog 106=some (2,true):=by kernel_rfl
@[go_sem] theorem ZDi:tyT Tryz.prog 120=some (1,false):=by kernel_rfl
@[go_sem] theorem ZBe:ZeE Tryz.prog 119=some [.val (.string ⟨#[]⟩),.val (.int .i64 0)]:=by kernel_rfl
end Go.Proofs.YtgpmlelfkjfbiaaGreatDoor
namespace Go.Ev
open Go Go.RowKit
section
variable {o:VO} {n:Nat}
@[go_sem] theorem ZBl:(hdr o n).cells=[hdr o n]:=by cases o<;>rfl
@[go_sem] theorem ZAB:ZbS (hdr o n)=true:=by cases o<;>rfl
@[go_sem] theorem ZzF (id ver:Nat):hdr (.row id ver) n = .vec id ver 0 n:=rfl
def VO.under:VO→Nat→Prop
 | .nil,_=>True
 | .row id _,k=>id<k
@[go_sem] theorem ZCd {nb nr nl:Nat}:Under nb nr nl (hdr o n)↔o.under nr:=by
 cases o with
 | nil=>exact ⟨fun _=>trivial,fun _ => .list (by simp) trivial⟩
 | row id ver=>exact ⟨fun h=>by cases h;assumption,fun h => .vec h⟩
@[go_sem] theorem ZyQ (k:Nat):VO.nil.under k=True:=rfl
@[go_sem] theorem Zme (id ver k:Nat):(VO.row id ver).under k=(id<k):=rfl
end
def ZnY:VO→List RowA→VO
 | .nil,rows => .row rows.length 0
 | .row id ver,_ => .row id (ver+1)
def Zpd:VO→List RowA→Nat→List AV→List RowA
 | .nil,rows,sz,cs=>rows++[.vec 0 sz cs]
 | .row id ver,rows,sz,cs=>rows.set id (.vec (ver+1) sz cs)
section
variable {Rw rows:List RowA} {l:List (Nat × Nat × Own)} {ho:Own} {v:List VE} {o:VO} {sz:Nat} {cs:List AV}
theorem OwnsAt.up {lo:Nat} {x:Nat × Nat × Own} (h:OwnsAt lo ho rows x) (r:List RowA):OwnsAt lo ho (rows++r) x:=by
 rcases h with h | ⟨id,h1,h2,h3⟩
 ·
  exact .inl h
 ·
  exact .inr ⟨id,h1,h2,by rw [List.getElem?_append_left (List.getElem?_eq_some_iff.1 h3).1];exact h3⟩
theorem OwnsAt.set {lo:Nat} {x:Nat × Nat × Own} (h:OwnsAt lo ho rows x) {i:Nat} {a s:Nat} {c:List AV} (hi:rows[i]? = some (.vec a s c)) (r:RowA):OwnsAt lo ho (rows.set i r) x:=by
 rcases h with h | ⟨id,h1,h2,h3⟩
 ·
  exact .inl h
 ·
  refine .inr ⟨id,h1,h2,?_⟩
  rw [List.getElem?_set_ne (fun e=>by rw [e,h3] at hi;cases hi)]
  exact h3
theorem VAt.lt {lo:Nat} {x:VE} (h:VAt lo rows x):x.1.under rows.length:=by
 rcases h with h | ⟨id,ver,h1,h2,h3⟩
 ·
  rw [h.1];trivial
 ·
  rw [h1];exact (List.getElem?_eq_some_iff.1 h3).1
theorem Owns.nilV (h:Owns Rw rows l ho v) (sz:Nat):Owns Rw rows l ho ((.nil,sz,[])::v) :=
 ⟨h.len,h.keep,fun i r hr q qv=>h.calm i r hr q fun x hx=>qv x (List.mem_cons_of_mem _ hx),h.each,h.apart,fun x hx=>by
  rcases List.mem_cons.1 hx with rfl | hx
  ·
   exact .inl ⟨rfl,rfl⟩
  ·
   exact h.veach x hx,List.pairwise_cons.2 ⟨fun _ _ _ _ _ q=>(nomatch q),h.vapart⟩⟩
theorem Owns.newV (h:Owns Rw rows l ho v) (sz:Nat) (cs:List AV):Owns Rw (rows++[.vec 0 sz cs]) l ho ((.row rows.length 0,sz,cs)::v):=by
 have hl:=h.len
 refine ⟨by simp;omega,fun i hi hn=>?_,fun i r hr q qv=>?_,fun x hx=>(h.each x hx).up _,h.apart,fun x hx=>?_,List.pairwise_cons.2 ⟨fun y hy id a b q k=>?_,h.vapart⟩⟩
 ·
  rw [List.getElem?_append_left (by omega)];exact h.keep i hi hn
 ·
  by_cases hi:i<rows.length
  ·
   rw [List.getElem?_append_left hi] at hr
   exact h.calm i r hr q fun x hx=>qv x (List.mem_cons_of_mem _ hx)
  ·
   have e:i=rows.length:=by
    have:=(List.getElem?_eq_some_iff.1 hr).1
    simp at this;omega
   exact absurd (by rw [e]) (qv _ (List.mem_cons_self ..) 0)
 ·
  rcases List.mem_cons.1 hx with rfl | hx
  ·
   exact .inr ⟨_,_,rfl,hl,by simp⟩
  ·
   exact (h.veach x hx).up _
 ·
  cases q
  have:=(h.veach y hy).lt
  rw [k] at this
  exact Nat.lt_irrefl _ this
theorem Owns.setV {id ver:Nat} (h:Owns Rw rows l ho ((.row id ver,sz,cs)::v)) (ver':Nat) (cs':List AV):Owns Rw (rows.set id (.vec ver' sz cs')) l ho ((.row id ver',sz,cs')::v):=by
 obtain ⟨h0,h1,h2,h3,h4,h5,h6⟩:=h
 obtain ⟨hid,hrow⟩:Rw.length≤id∧rows[id]? = some (.vec ver sz cs):=by
  rcases h5 _ (List.mem_cons_self ..) with q | ⟨c,ver',q1,q2,q3⟩
  ·
   cases q.1
  ·
   cases q1;exact ⟨q2,q3⟩
 have d:=(List.getElem?_eq_some_iff.1 hrow).1
 obtain ⟨p1,p2⟩:=List.pairwise_cons.1 h6
 refine ⟨by simpa using h0,fun i hi hn=>?_,fun i r hr q qv=>?_,fun x hx=>(h3 x hx).set hrow _,h4,fun x hx=>?_,List.pairwise_cons.2 ⟨fun y hy c a b q=>by cases q;exact p1 y hy id ver b rfl,p2⟩⟩
 ·
  rw [List.getElem?_set_ne (by omega)];exact h1 i hi hn
 ·
  by_cases e:id=i
  ·
   exact absurd (by rw [e]) (qv _ (List.mem_cons_self ..) ver')
  ·
   rw [List.getElem?_set_ne e] at hr
   refine h2 i r hr q fun x hx=>?_
   rcases List.mem_cons.1 hx with rfl | hx
   ·
    intro a k;cases k;exact e rfl
   ·
    exact qv x (List.mem_cons_of_mem _ hx)
 ·
  rcases List.mem_cons.1 hx with rfl | hx
  ·
   exact .inr ⟨id,ver',rfl,hid,by simp [d]⟩
  ·
   exact (h5 x (List.mem_cons_of_mem _ hx)).set (fun a k=>p1 x hx id ver a rfl k) _
theorem Owns.bump (h:Owns Rw rows l ho ((o,sz,cs)::v)) (cs':List AV):Owns Rw (Zpd o rows sz cs') l ho ((ZnY o rows,sz,cs')::v):=by
 cases o with
 | nil =>
  have h':Owns Rw rows l ho v:=⟨h.len,h.keep,fun i r hr q qv=>h.calm i r hr q fun x hx=>by
   rcases List.mem_cons.1 hx with rfl | hx
   ·
    intro a k;cases k
   ·
    exact qv x hx,h.each,h.apart,fun x hx=>h.veach x (List.mem_cons_of_mem _ hx),(List.pairwise_cons.1 h.vapart).2⟩
  exact h'.newV sz cs'
 | row id ver=>exact h.setV (ver+1) cs'
theorem Owns.eqV {v':List VE} (h:Owns Rw rows l ho v) (he:v=v'):Owns Rw rows l ho v':=he▸h
theorem Owns.nilZ (h:Owns Rw rows l ho ((o,sz,cs)::v)) (hs:0<sz) {n:Nat} (hn:cs.length=n*sz):o = .nil→n=0:=fun e=>by
 rcases h.veach _ (List.mem_cons_self ..) with q | ⟨id,ver,q1,q2,q3⟩
 ·
  have q2:cs=[]:=q.2
  rw [q2] at hn
  rcases Nat.eq_zero_or_pos n with w | w
  ·
   exact w
  ·
   have:=Nat.mul_pos w hs
   simp at hn;omega
 ·
  rw [e] at q1;cases q1
theorem Owns.lenV (h:Owns Rw rows l ho ((o,sz,cs)::v)) (hs:0<sz) {n:Nat} (hn:cs.length=n*sz) (P:Program) (t:TypeId):ZqF P t (hdr o n)=((elT P t).isSome=true,.val (.int .i64 n)):=by
 cases o with
 | nil=>rw [h.nilZ hs hn rfl];rfl
 | row id ver=>rfl
theorem Owns.underV (h:Owns Rw rows l ho v):∀ x∈v,x.1.under rows.length:=fun x hx=>(h.veach x hx).lt
theorem Owns.appendV {P:Program} {t el:TypeId} {by8 n m:Nat} {ag:Bool} (h:Owns Rw rows l ho ((o,sz,cs)::v)) (he:elT P t=some (el,sz,ag,by8)) (hz:(ZeE P el).isSome=true) (hs:0<sz) (hn:cs.length=n*sz) (hm:0<m)
  (hb:(n+m)*by8≤140737488355328) (hb2:n+m≤4611686018427387904) (ys:List AV) (hy:ys.length=m) (cs':List AV) (hc:cs++ys.flatMap (fun y=>y.pub.cells)=cs') :
  ∃ o' rows',Owns Rw rows' l ho ((o',sz,cs')::v)∧∀ (B:List (List AV)) (L:List LoopA) (o2:Own),Zbh P ⟨B,rows,L⟩ t (hdr o n) (.list ys o2)=((∀ y∈ys,y.cells.length=sz∧ZbS y=true),hdr o' (n+m),⟨B,rows',L⟩):=by
 subst hc
 refine ⟨_,_,h.bump _,fun B L o2=>?_⟩
 cases o with
 | nil =>
  have e0:=h.nilZ hs hn rfl
  subst e0
  have ec:cs=[]:=List.length_eq_zero_iff.1 (by simpa using hn)
  subst ec
  simp only [hdr,Zbh,he,ZaN,Zb5,Zb8,hs,hz,hy,hm,ZnY,Zpd,List.length_nil,List.nil_append,Nat.zero_add,true_and,and_true,Prod.mk.injEq,eq_iff_iff,and_self]
  rw [Nat.zero_add] at hb hb2
  exact ⟨fun q=>q.2.2,fun q=>⟨hb,hb2,q⟩⟩
 | row id ver =>
  obtain ⟨id',ver',e,hlt,hv⟩:∃ id' ver',VO.row id ver = .row id' ver'∧id'<rows.length∧Zj0 rows id' ver'=some (sz,cs):=by
   rcases h.veach _ (List.mem_cons_self ..) with q | ⟨id,ver,q1,q2,q3⟩
   ·
    cases q.1
   ·
    refine ⟨id,ver,q1,(List.getElem?_eq_some_iff.1 q3).1,?_⟩
    simp only [Zj0,q3,if_true]
  cases e
  have et:cs.take (n*sz)=cs:=List.take_of_length_le (by omega)
  have eb:=hb
  simp only [hdr,Zbh,he,hv,ZaN,Zb5,Zb8,hs,hz,hy,ZnY,Zpd,et,Nat.le_of_eq hn.symm,true_and,and_true,Prod.mk.injEq,eq_iff_iff]
  exact ⟨fun q=>q.2.2,fun q=>⟨hb,hb2,q⟩⟩
theorem Owns.callV {rows':List RowA} {v':List VE} (h:Owns Rw rows l ho v) (hc:Owns rows rows' [] .none v'):Owns Rw rows' l ho (v'++v):=by
 have l1:=h.len
 have l2:=hc.len
 have keep:∀ i,i<rows.length→rows'[i]? = rows[i]? := fun i hi=>hc.keep i hi (fun q=>by cases q)
 have d:∀ x∈v,x.1.under rows.length:=h.underV
 have new:∀ x∈v',∀ id c,x.1 = .row id c→rows.length≤id:=fun x hx id c e=>by
  rcases hc.veach x hx with q | ⟨id',ver',q1,q2,q3⟩
  ·
   rw [q.1] at e;cases e
  ·
   rw [q1] at e;cases e;exact q2
 refine ⟨by omega,fun i hi hn=>?_,fun i r hr q qv=>?_,fun x hx=>?_,h.apart,fun x hx=>?_,List.pairwise_append.2 ⟨hc.vapart,h.vapart,fun x hx y hy id a b e k=>?_⟩⟩
 ·
  rw [keep i (by omega)];exact h.keep i hi hn
 ·
  by_cases e:rows.length≤i
  ·
   exact hc.calm i r hr (.inl e) fun x hx=>qv x (List.mem_append_left _ hx)
  ·
   rw [keep i (by omega)] at hr
   exact h.calm i r hr q fun x hx=>qv x (List.mem_append_right _ hx)
 ·
  rcases h.each x hx with q | ⟨id,q1,q2,q3⟩
  ·
   exact .inl q
  ·
   exact .inr ⟨id,q1,q2,by rw [keep id (List.getElem?_eq_some_iff.1 q3).1];exact q3⟩
 ·
  rcases List.mem_append.1 hx with hx | hx
  ·
   rcases hc.veach x hx with q | ⟨id,c,q1,q2,q3⟩
   ·
    exact .inl q
   ·
    exact .inr ⟨id,c,q1,by omega,q3⟩
  ·
   rcases h.veach x hx with q | ⟨id,c,q1,q2,q3⟩
   ·
    exact .inl q
   ·
    exact .inr ⟨id,c,q1,q2,by rw [keep id (List.getElem?_eq_some_iff.1 q3).1];exact q3⟩
 ·
  have h1:=new x hx id a e
  have h2:=d y hy
  rw [k] at h2
  exact absurd h2 (by simp only [VO.under];omega)
theorem Owns.dropV {x:VE} (h:Owns Rw rows l ho ((.nil,sz,cs)::v)):Owns Rw rows l ho v :=
 ⟨h.len,h.keep,fun i r hr q qv=>h.calm i r hr q fun x hx=>by
  rcases List.mem_cons.1 hx with rfl | hx
  ·
   intro a k;cases k
  ·
   exact qv x hx,h.each,h.apart,fun x hx=>h.veach x (List.mem_cons_of_mem _ hx),(List.pairwise_cons.1 h.vapart).2⟩
theorem Owns.deadV {id ver:Nat} (h:Owns Rw rows l ho ((.row id ver,sz,cs)::v)):Owns Rw (rows.set id (.dead (ver+1))) l ho v:=by
 obtain ⟨h0,h1,h2,h3,h4,h5,h6⟩:=h
 obtain ⟨hid,hrow⟩:Rw.length≤id∧rows[id]? = some (.vec ver sz cs):=by
  rcases h5 _ (List.mem_cons_self ..) with q | ⟨id',ver',q1,q2,q3⟩
  ·
   cases q.1
  ·
   cases q1;exact ⟨q2,q3⟩
 have b:=(List.getElem?_eq_some_iff.1 hrow).1
 obtain ⟨p1,p2⟩:=List.pairwise_cons.1 h6
 refine ⟨by simpa using h0,fun i hi hn=>?_,fun i r hr q qv=>?_,fun x hx=>(h3 x hx).set hrow _,h4,fun x hx=>?_,p2⟩
 ·
  rw [List.getElem?_set_ne (by omega)];exact h1 i hi hn
 ·
  by_cases e:id=i
  ·
   subst e
   rw [List.getElem?_set_self b] at hr
   cases hr;rfl
  ·
   rw [List.getElem?_set_ne e] at hr
   refine h2 i r hr q fun x hx=>?_
   rcases List.mem_cons.1 hx with rfl | hx
   ·
    intro a k;cases k;exact e rfl
   ·
    exact qv x hx
 ·
  exact (h5 x (List.mem_cons_of_mem _ hx)).set (fun a k=>p1 x hx id ver a rfl k) _
end
section
variable {P:Program} {w0:World} {n:Nat} {e:Env} {st:St} {M0:Mem} {W0:World} {ro:Option Nat} {Q:AQ} {c:Code}
variable {Rw:List RowA} {lw:List (Nat × Nat × Own)} {oh:Own} {v:List VE} {o:VO} {sz m:Nat} {cs xs:List AV}
theorem ZrU (l i:Nat) {bs:List AV} (hl:st.boxes[l]? = some bs) (hi:bs[i]? = some (hdr o m)) (ho:Owns Rw st.rows lw oh ((o,sz,cs)::v)) (ag:Bool) (hag:ag=true∨sz=1) (hs:0<sz) (hn:cs.length=m*sz) (hx:ZrK sz ag cs 0 m=xs)
  (h:∀ rows',Owns Rw rows' lw oh v→awp P w0 n M0 W0 ro c Q e { st with boxes:=st.boxes.set l (bs.set i (.list xs .none)),rows:=rows' }):awp P w0 n M0 W0 ro c Q e st:=by
 cases o with
 | nil =>
  have e0:=ho.nilZ hs hn rfl
  subst e0
  have ex:xs=[]:=by rw [←hx];rfl
  subst ex
  exact ZmP l i hl hi rfl (h _ (ho.dropV (x:=(.nil,0,[]))))
 | row id ver =>
  rcases ho.veach _ (List.mem_cons_self ..) with q | ⟨id',ver',q1,q2,q3⟩
  ·
   cases q.1
  ·
   cases q1
   subst hx
   exact Zj6 l i ag hl hi (by simp only [Zj0,q3,if_true]) hag (by rw [Nat.zero_add];omega) (h _ ho.deadV)
end
theorem Zz3 {α:Type} {f:α→AV} {g:α→List AV} (sz:Nat) (hf:∀ x,f x = .agg (g x)) (hg:∀ x,(g x).length=sz) (xs:List α):ZrK sz true (xs.flatMap fun x=>(f x).cells) 0 xs.length=xs.map f:=by
 have hc:(xs.flatMap fun x=>(f x).cells)=xs.flatMap g:=by
  congr 1;funext x;rw [hf];rfl
 rw [hc]
 refine List.ext_getElem (by simp [ZrK]) fun i h1 h2=>?_
 simp only [List.length_map] at h2
 simp only [ZrK,List.getElem_map,List.getElem_range,Nat.zero_add,Zn1,if_true]
 rw [Ze0 sz hg (List.getElem?_eq_getElem h2),hf]
theorem Zhg {α:Type} {f:α→AV} {sz:Nat} (hf:∀ x,(f x).cells.length=sz) (xs:List α):(xs.flatMap fun x=>(f x).cells).length=xs.length*sz:=by
 induction xs with
 | nil=>simp
 | cons x xs ih=>rw [List.flatMap_cons,List.length_append,ih,hf,List.length_cons,Nat.succ_mul,Nat.add_comm]
theorem ZsA {α:Type} {f:α→AV} {sz:Nat} (hf:∀ x,(f x).cells.length=sz) {xs:List α} {i:Nat} {x:α} (h:xs[i]? = some x) :
  (∀ j,j<sz→nth (xs.flatMap fun x=>(f x).cells) (i*sz+j)=nth (f x).cells j)∧(∀ j k,j+k≤sz→((xs.flatMap fun x=>(f x).cells).drop (i*sz+j)).take k=((f x).cells.drop j).take k):=by
 have a:=Ze0 (f:=fun x=>(f x).cells) sz hf h
 have kd:∀ j k,j+k≤sz→((xs.flatMap fun x=>(f x).cells).drop (i*sz+j)).take k=((f x).cells.drop j).take k:=fun j k b=>by
  rw [←a,List.drop_take,List.take_take,List.drop_drop,Nat.min_eq_left (by omega)]
 refine ⟨fun j hj=>?_,kd⟩
 have:=kd j 1 (by omega)
 simp only [nth,List.getD_eq_getElem?_getD]
 have e1:∀ (l:List AV) (q:Nat),l[q]? = ((l.drop q).take 1)[0]? := fun l q=>by simp [List.getElem?_take_of_lt,List.getElem?_drop]
 rw [e1,e1 (f x).cells,this]
section
variable {P:Program} {w0:World} {f:FuncId} {st:St}
def finV (st:St) (Post:AV→St→Prop) (r:AV) (s:St):Prop :=
 st.boxes.length≤s.boxes.length∧st.rows.length≤s.rows.length∧st.loops.length≤s.loops.length∧Calm st.boxes.length s.rows.length st.loops.length (s.cut st.boxes.length s.rows.length st.loops.length) ∧
  Under st.boxes.length s.rows.length st.loops.length r∧Post r (s.cut st.boxes.length s.rows.length st.loops.length)
theorem ACalls.finV {args:List AV} {Post:AV→St→Prop} (h:ACalls P w0 f args st (finV st Post)):ACalls P w0 f args st Post:=by
 refine ⟨h.1,fun M w b a c=>(h.2 M w b a c).mono ?_⟩
 rintro en w' ⟨v,M',r,d,h1,⟨b1,b2,b3,b4,b5,b6⟩,h3,h4,h5⟩
 exact ⟨v,M'.cut st.boxes.length d.rows.length st.loops.length,r,_,h1,b6,h3.cut (by have:=a.N;omega) (by have:=a.NR;omega) (by have:=a.loop.NL;omega) (by rw [h4.loop.NL];exact b3),h4.cut b1 (Nat.le_refl _) b3 b4,h5.cut b5⟩
theorem ZC3 {B B' X:List (List AV)} {R0 rows:List RowA} {L l:List LoopA} {Post:AV→St→Prop} {r:AV} {ow:List (Nat × Nat × Own)} {v:List VE} (ho:Owns R0 rows ow .none v) (hc:Calm B.length R0.length L.length ⟨B',R0,L⟩) (hB:B'.length=B.length) (hu:Under B.length rows.length L.length r)
  (hv:∀ x∈v,∀ y∈x.2.2,Under B.length rows.length L.length y) (hp:Post r ⟨B',rows,L⟩):Go.Ev.finV ⟨B,R0,L⟩ Post r ⟨B'++X,rows,L++l⟩:=by
 have e:St.cut ⟨B'++X,rows,L++l⟩ B.length rows.length L.length=⟨B',rows,L⟩:=by simp [St.cut,←hB]
 have hl:=ho.len
 refine ⟨by simp [hB],hl,by simp,?_,hu,by simp only [e];exact hp⟩
 simp only [e]
 exact ⟨ho.rowsCalm (Nat.le_refl _) hc.rows hv,fun cs a x b=>Zb1 (Nat.le_refl _) hl (Nat.le_refl _) (hc.boxes cs a x b),fun la a k x b c=>Zb1 (Nat.le_refl _) hl (Nat.le_refl _) (hc.loops la a k x b c)⟩
theorem ZCh {B B' X:List (List AV)} {R0 rows:List RowA} {L:List LoopA} {Post:AV→St→Prop} {r:AV} {ow:List (Nat × Nat × Own)} {v:List VE} (ho:Owns R0 rows ow .none v) (hc:Calm B.length R0.length L.length ⟨B',R0,L⟩) (hB:B'.length=B.length) (hu:Under B.length rows.length L.length r)
  (hv:∀ x∈v,∀ y∈x.2.2,Under B.length rows.length L.length y) (hp:Post r ⟨B',rows,L⟩):Go.Ev.finV ⟨B,R0,L⟩ Post r ⟨B'++X,rows,L⟩:=by
 have:=ZC3 (X:=X) (l:=[]) ho hc hB hu hv hp
 rwa [List.append_nil] at this
end
abbrev VP (Rw:List RowA) (o:VO) (sz:Nat) (cs:List AV):Prop:=VAt 0 Rw (o,sz,cs)
theorem Owns.vp {Rw rows:List RowA} {l:List (Nat × Nat × Own)} {ho:Own} {v:List VE} {o:VO} {sz:Nat} {cs:List AV} (h:Owns Rw rows l ho ((o,sz,cs)::v)):VP rows o sz cs:=by
 rcases h.veach _ (List.mem_cons_self ..) with q | ⟨id,ver,q1,q2,q3⟩
 ·
  exact .inl q
 ·
  exact .inr ⟨id,ver,q1,Nat.zero_le _,q3⟩
theorem VP.up {Rw rows:List RowA} {o:VO} {sz:Nat} {cs:List AV} {l:List (Nat × Nat × Own)} {v:List VE} (h:VP Rw o sz cs) (ho:Owns Rw rows l .none v):VP rows o sz cs:=by
 rcases h with q | ⟨id,ver,q1,q2,q3⟩
 ·
  exact .inl q
 ·
  refine .inr ⟨id,ver,q1,q2,?_⟩
  rw [ho.keep id (List.getElem?_eq_some_iff.1 q3).1 (fun e=>by cases e)]
  exact q3
theorem VP.row {rows:List RowA} {o:VO} {sz:Nat} {cs:List AV} (h:VP rows o sz cs) (hne:0<cs.length):∃ id ver,o = .row id ver∧id<rows.length∧Zj0 rows id ver=some (sz,cs):=by
 rcases h with q | ⟨id,ver,q1,q2,q3⟩
 ·
  have q2:cs=[]:=q.2
  rw [q2] at hne;simp at hne
 ·
  refine ⟨id,ver,q1,(List.getElem?_eq_some_iff.1 q3).1,?_⟩
  simp only [Zj0,q3,if_true]
theorem VP.lenV {rows:List RowA} {o:VO} {sz:Nat} {cs:List AV} (h:VP rows o sz cs) (hs:0<sz) {n:Nat} (hn:cs.length=n*sz) (P:Program) (t:TypeId):ZqF P t (hdr o n)=((elT P t).isSome=true,.val (.int .i64 n)):=by
 cases o with
 | nil =>
  rcases h with q | ⟨id,ver,q1,q2,q3⟩
  ·
   have q2:cs=[]:=q.2
   rw [q2] at hn
   rcases Nat.eq_zero_or_pos n with w | w
   ·
    rw [w];rfl
   ·
    have:=Nat.mul_pos w hs
    simp at hn;omega
  ·
   cases q1
 | row id ver=>rfl
theorem VP.under {rows:List RowA} {o:VO} {sz:Nat} {cs:List AV} (h:VP rows o sz cs):o.under rows.length:=VAt.lt h
end Go.Ev
namespace Go.Ev
open Go Go.RowKit Go.Shelf Go.Lib Go.Proofs
structure InsLay (P:Program) (ρ:Ren) (nm:String) (sz bytes:Nat) (z:Value):Prop where
 mixed:P.follows .mixedOrders=true
 nmo:nm ≠ "runtime.NumGoroutine"
 f22:P.funcs[ρ.f 22]? = some { Body2.n22 ρ with name:=nm }
 ov:∀ (w:World) (x y:Value),(Extern.SlicesOverlaps.overlaps #[ρ.t 24,ρ.t 24] #[ρ.t 4] #[x,y]).run P w = .ok (.bool false) w→(callFunc (ρ.f 29) #[x,y]).run P w = .ok (.value (.bool false)) w
 t0:P.underlying (ρ.t 0)=some (TypeDesc.tuple #[])
 a0:∀ w,(isAgg (ρ.t 0)).run P w = .ok false w
 z0:∀ w,(Go.sizeOf (ρ.t 0)).run P w = .ok 1 w
 v0:∀ w,(zeroValue (ρ.t 0)).run P w = .ok (Value.tuple #[]) w
 t3:P.underlying (ρ.t 3)=some (TypeDesc.int IntKind.i64)
 a3:∀ w,(isAgg (ρ.t 3)).run P w = .ok false w
 z3:∀ w,(Go.sizeOf (ρ.t 3)).run P w = .ok 1 w
 v3:∀ w,(zeroValue (ρ.t 3)).run P w = .ok (Value.int IntKind.i64 0) w
 t4:P.underlying (ρ.t 4)=some (TypeDesc.bool)
 a4:∀ w,(isAgg (ρ.t 4)).run P w = .ok false w
 z4:∀ w,(Go.sizeOf (ρ.t 4)).run P w = .ok 1 w
 v4:∀ w,(zeroValue (ρ.t 4)).run P w = .ok (Value.bool false) w
 z9:∀ w,(Go.sizeOf (ρ.t 9)).run P w = .ok sz w
 t24:P.underlying (ρ.t 24)=some (TypeDesc.slice (ρ.t 9))
 a24:∀ w,(isAgg (ρ.t 24)).run P w = .ok false w
 z24:∀ w,(Go.sizeOf (ρ.t 24)).run P w = .ok 1 w
 v24:∀ w,(zeroValue (ρ.t 24)).run P w = .ok (Value.slice none 0 0) w
 i9:(P.info? (ρ.t 9)).map (fun i=>(i.zero,i.size,i.bytes))=some (some z,sz,bytes)
theorem Zmm {P:Program} (w:World) (tS tR e:TypeId) (ht:P.underlying tS=some (.slice e)) (size:Nat) (hz:∀ w,(Go.sizeOf e).run P w = .ok size w)
  (a b:Addr) (la ca lb cb:Nat) (hne:a.block≠b.block) (tA tB:TypeId) (kA kB:Nat)
  (hsa:w.shape? a.block=some (tA,kA)) (hsb:w.shape? b.block=some (tB,kB)) (hkA:kA≠0) (hkB:kB≠0)
  (hfb:∀ j,w.frozen? { block:=b.block,off:=j }=false) (hb:b.spot=none) :
  (Extern.SlicesOverlaps.overlaps #[tS,tS] #[tR] #[.slice (some a) la ca,.slice (some b) lb cb]).run P w = .ok (.bool false) w:=by
 have d:(a.block != b.block)=true:=by simpa using hne
 have c:(a.block == b.block)=false:=by simpa using hne
 have hf:w.frozen? b=false:=by
  obtain ⟨bb,bo,bs⟩:=b
  cases hb
  exact hfb bo
 change Sem.run P (α:=Value) (do
  let some t:=(#[tS,tS]:Array TypeId)[0]? | stuck "slices.overlaps: no parameter types"
  let .slice elem ← underlying t | stuck "slices.overlaps: slice type expected"
  let size ← sizeOf elem
  match (some a:Option Addr),(some b:Option Addr) with
  | some a,some b =>
   if la=0∨lb=0∨size=0 then pure (Value.bool false)
   else if a.block != b.block&&(← frozen a)&&(← frozen b) then unsupported .addressObserved
   else do
    if a.block != b.block then do
     noView a;noView b
     if ← mayBeOne a b then return Value.bool ((← choose (.extern "sameAddr.stringBytes" 2)) == 1)
    pure (Value.bool (a.block == b.block&&a.off<b.off+lb*size&&b.off<a.off+la*size))
  | _,_=>pure (Value.bool false)) w=_
 by_cases h0:la=0∨lb=0∨size=0
 ·
  simp [run_underlying ht,hz,h0]
 ·
  cases kB with
  | zero=>exact absurd rfl hkB
  | succ kB =>
  cases kA with
  | zero=>exact absurd rfl hkA
  | succ kA =>
   cases hfa:w.frozen? a<;>cases hfe:w.frozen? { block:=a.block,off:=kA+1 } <;>
    simp [run_underlying ht,hz,h0,d,c,frozen,noView,viewAt,mayBeOne,stringish,shape,Sem.run,hsa,hsb,hfa,hfe,hf,hfb]
section
variable {P:Program} {ρ:Ren} {nm:String} {sz bytes:Nat} {z:Value}
theorem Ziz (w:World) (dT sT ty elem:TypeId) (b o dLen dCap:Nat) (a:Addr) (sLen sCap:Nat) (cs:List Value)
  (hu:P.underlying dT=some (.slice elem)) (hs:(P.info? elem).map (·.size)=some sz) (hn:cs.length=Nat.min sLen dLen*sz)
  (hsrc:∀ j v,cs[j]? = some v→w.cell? (a.add j)=some v) (hc:∀ j,j<cs.length→(w.cell? ⟨b,o+j,none⟩).isSome=true) (hf:∀ j,j<cs.length→w.frozen? ⟨b,o+j,none⟩=false) (h1:∀ v∈cs,v.oneCell'=true) :
  (Builtin.copy_ #[dT,sT] ty #[.slice (some ⟨b,o,none⟩) dLen dCap,.slice (some a) sLen sCap]).run P w = .ok (goInt (Nat.min sLen dLen)) (w.setCells b o cs):=by
 have hl:=run_loadCells_list (P:=P) w a cs hsrc
 have c:=run_storeCells_cells (P:=P) b o cs 0 w (by simpa using hc) (by simpa using hf) h1
 rw [Nat.add_zero] at c
 rw [hn] at hl
 cases hq:P.info? elem with
 | none=>simp [hq] at hs
 | some i =>
  have hi:i.size=sz:=by simpa [hq] using hs
  simp [Builtin.copy_,run_underlying hu,Builtin.lenOf,Builtin.firstCells,sizeOf,typeInfo,hq,hi,hl,c]
theorem Zvx (L:InsLay P ρ nm sz bytes z) (b off n c i vb voff m vc:Nat) (cs vs:List Value) (w:World) (hi:i<n) (hm:0<m) (hroom:n+m≤c) (hc63:c≤9223372036854775807) (hvb:vb≠b)
  (hcl:cs.length=n*sz) (hvl:vs.length=m*sz)
  (hcs:∀ j v,cs[j]? = some v→w.cell? ⟨b,off+j,none⟩=some v) (hsp:∀ j,j<n*sz+m*sz→(w.cell? ⟨b,off+j,none⟩).isSome=true) (hfz:∀ j,j<n*sz+m*sz→w.frozen? ⟨b,off+j,none⟩=false)
  (hvs:∀ j v,vs[j]? = some v→w.cell? ⟨vb,voff+j,none⟩=some v) (h1c:∀ v∈cs,v.oneCell'=true) (h1v:∀ v∈vs,v.oneCell'=true)
  (tA tB:TypeId) (kA kB:Nat) (hsa:w.shape? vb=some (tA,kA)) (hsb:w.shape? b=some (tB,kB)) (hkA:kA≠0) (hkB:kB≠0) (hfb:∀ j,w.frozen? ⟨b,j,none⟩=false) :
  Calls P (ρ.f 22) #[.slice (some ⟨b,off,none⟩) n c,.int .i64 i,.slice (some ⟨vb,voff,none⟩) m vc] w fun e w' =>
   e = .returned (.slice (some ⟨b,off,none⟩) (n+m) c)∧w'=(w.drew.setCells b (off+(i*sz+m*sz)) (cs.drop (i*sz))).setCells b (off+i*sz) vs:=by
 have t0:=L.t0;have a0:=L.a0;have z0:=L.z0;have v0:=L.v0;have t3:=L.t3;have a3:=L.a3;have z3:=L.z3;have v3:=L.v3;have t4:=L.t4;have a4:=L.a4;have z4:=L.z4;have v4:=L.v4;have z9:=L.z9;have am:=L.t24;have ar:=L.a24;have ah:=L.z24;have ao:=L.v24
 have u0:=run_underlying L.t0;have u3:=run_underlying L.t3;have u4:=run_underlying L.t4;have ak:=run_underlying L.t24
 have ap:¬ ((m:Int)=0):=by omega
 have av:¬ ((i:Int)=(n:Int)):=by omega
 have p:(P.info? (ρ.t 9)).map (·.size)=some sz:=by
  obtain ⟨i0,aa,h0,h1,h2⟩:=info_parts L.i9
  rw [aa];simp [h1]
 have r:=L.mixed
 have ad:IntKind.i64.wrap ((i:Int)+(m:Int))=(i:Int)+(m:Int):=by rw [IntKind.wrap_i64];omega
 have au:(0:Int)≤(i:Int)+(m:Int):=by omega
 have u:i≤n:=by omega
 have aj:((i:Int)+(m:Int)).toNat=i+m:=by omega
 have ag:¬ (c=i+m):=by omega
 have aq:(i:Int)≤(n:Int)+(m:Int):=by omega
 have ai:¬ (c=i):=by omega
 have af:(i+m)*sz=i*sz+m*sz:=Nat.add_mul ..
 have ae:i*sz≤n*sz:=Nat.mul_le_mul_right _ u
 have o:(n-i)*sz=n*sz-i*sz:=Nat.sub_mul ..
 have ab:∀ lb cb,(callFunc (ρ.f 29) #[.slice (some ⟨vb,voff,none⟩) m vc,.slice (some ⟨b,off+(i*sz+m*sz),none⟩) lb cb]).run P w = .ok (.value (.bool false)) w:=fun lb cb =>
  L.ov _ _ _ (Zmm w (ρ.t 24) (ρ.t 4) (ρ.t 9) L.t24 sz L.z9 ⟨vb,voff,none⟩ ⟨b,off+(i*sz+m*sz),none⟩ m vc lb cb hvb tA tB kA kB hsa hsb hkA hkB hfb rfl)
 have s:(cs.drop (i*sz)).length=n*sz-i*sz:=by rw [List.length_drop,hcl]
 have d:∀ ty dc sc,(Builtin.copy_ #[(ρ.t 24),(ρ.t 24)] ty #[.slice (some ⟨b,off+(i*sz+m*sz),none⟩) (n+m-(i+m)) dc,.slice (some ⟨b,off+i*sz,none⟩) (n+m-i) sc]).run P w.drew = .ok (goInt ((n-i:Nat):Int)) (w.drew.setCells b (off+(i*sz+m*sz)) (cs.drop (i*sz))):=fun ty dc sc=>by
  have a:Nat.min (n+m-i) (n+m-(i+m))=n-i:=by simp only [Nat.min_def];split<;>omega
  have:=Ziz (P:=P) w.drew (ρ.t 24) (ρ.t 24) ty (ρ.t 9) b (off+(i*sz+m*sz)) (n+m-(i+m)) dc ⟨b,off+i*sz,none⟩ (n+m-i) sc (cs.drop (i*sz)) L.t24 p (by rw [s,a,o])
   (fun j v hj=>by rw [Addr.add_lit,Nat.add_assoc];exact hcs (i*sz+j) v (by rwa [List.getElem?_drop] at hj))
   (fun j hj=>by rw [Nat.add_assoc];exact hsp _ (by omega)) (fun j hj=>by rw [Nat.add_assoc];exact hfz _ (by omega)) (fun v hv=>h1c v (List.mem_of_mem_drop hv))
  rwa [a] at this
 obtain ⟨W1,hW1⟩:∃ W1,W1=w.drew.setCells b (off+(i*sz+m*sz)) (cs.drop (i*sz)):=⟨_,rfl⟩
 have q:∀ k,k<n*sz+m*sz→(W1.cell? ⟨b,off+k,none⟩).isSome=true:=fun k hk=>by
  rw [hW1]
  exact isSome_setCells b _ _ _ (fun j hj=>by rw [Nat.add_assoc];exact hsp _ (by omega)) _ (hsp k hk)
 have l:∀ (W:World),(∀ x,W.cell? x=W1.cell? x)→(∀ x,W.frozen? x=W1.frozen? x)→∀ ty dc,(Builtin.copy_ #[(ρ.t 24),(ρ.t 24)] ty #[.slice (some ⟨b,off+i*sz,none⟩) (n+m-i) dc,.slice (some ⟨vb,voff,none⟩) m vc]).run P W = .ok (goInt m) (W.setCells b (off+i*sz) vs):=fun W g y ty dc=>by
  have a:Nat.min m (n+m-i)=m:=by simp only [Nat.min_def];split<;>omega
  have:=Ziz (P:=P) W (ρ.t 24) (ρ.t 24) ty (ρ.t 9) b (off+i*sz) (n+m-i) dc ⟨vb,voff,none⟩ m vc vs L.t24 p (by rw [hvl,a])
   (fun j v hj=>by
    rw [Addr.add_lit,g,hW1,World.cell?_setCells_out b _ _ _ _ (fun h _=>absurd h hvb)]
    exact hvs j v hj)
   (fun j hj=>by rw [g,Nat.add_assoc];exact q _ (by omega)) (fun j hj=>by rw [y,hW1,World.frozen?_setCells,Nat.add_assoc];exact hfz _ (by omega)) h1v
  rwa [a] at this
 rw [←hW1] at d
 have FG:=L.f22
 go_enter FG,Body2.n22_ntmps ρ
 go_wp2_with (simp only [ab])
 go_region_law_o (refine step_copy_runI rfl _ _ (ρ.t 24) (ρ.t 24) rfl _ _ (by simp [Act.eval,Act.put]) (by simp [Act.eval,Act.put]) (d _ _ _) ?_)
 go_wp2_with (at_builtin;refine wpList_copy_runI _ rfl _ _ (ρ.t 24) (ρ.t 24) rfl _ _ rfl rfl (l _ (fun _=>rfl) (fun _=>rfl) _ _) ?_)
 go_ret
 first | exact ⟨rfl,rfl⟩ | exact ⟨rfl,by rw [hW1]⟩
theorem Zw5 (L:InsLay P ρ nm sz bytes z) (hzc:z.cells.size=sz) (h0:0<sz) (b off n c i vb voff m vc:Nat) (cs vs:List Value) (w:World) (hi:i<n) (hm:0<m) (hnc:n≤c) (hroom:c<n+m) (hbig:(n+m)*bytes≤140737488355328) (hbig2:n+m≤4611686018427387904)
  (hcl:cs.length=n*sz) (hvl:vs.length=m*sz)
  (hcs:∀ j v,cs[j]? = some v→w.cell? ⟨b,off+j,none⟩=some v)
  (hvs:∀ j v,vs[j]? = some v→w.cell? ⟨vb,voff+j,none⟩=some v) (h1c:∀ v∈cs,v.oneCell'=true) (h1v:∀ v∈vs,v.oneCell'=true) :
  Calls P (ρ.f 22) #[.slice (some ⟨b,off,none⟩) n c,.int .i64 i,.slice (some ⟨vb,voff,none⟩) m vc] w fun e w' =>
   e = .returned (.slice (some ⟨w.heap.size,0,none⟩) (n+m) (grownCap w (n+m) c (ρ.t 9))) ∧
   w'=(((w.alloc (.cells ((cs.take (i*sz)).toArray++Builtin.zeroCells z.cells (n+m-i)++Builtin.zeroCells z.cells (grownCap w (n+m) c (ρ.t 9)-(n+m))) (ρ.t 9))).drew.setCells w.heap.size (i*sz) vs).drew).setCells w.heap.size (i*sz+m*sz) (cs.drop (i*sz)):=by
 have t0:=L.t0;have a0:=L.a0;have z0:=L.z0;have v0:=L.v0;have t3:=L.t3;have a3:=L.a3;have z3:=L.z3;have v3:=L.v3;have t4:=L.t4;have a4:=L.a4;have z4:=L.z4;have v4:=L.v4;have z9:=L.z9;have bf:=L.t24;have bk:=L.a24;have a9:=L.z24;have bg:=L.v24
 have u0:=run_underlying L.t0;have u3:=run_underlying L.t3;have u4:=run_underlying L.t4;have be:=run_underlying L.t24
 have aj:=L.mixed
 obtain ⟨i0,aa,ax,u,ab⟩:=info_parts L.i9
 have bh:¬ ((m:Int)=0):=by omega
 have bm:¬ ((i:Int)=(n:Int)):=by omega
 have bd:(c:Int)<(n:Int)+(m:Int):=by omega
 have ae:(P.info? (ρ.t 9)).map (·.size)=some sz:=by rw [aa];simp [u]
 have s:(i+m)*sz=i*sz+m*sz:=Nat.add_mul ..
 have a6:i*sz≤n*sz:=Nat.mul_le_mul_right _ (by omega)
 have a1:0<m*sz:=Nat.mul_pos hm h0
 have y:(n-i)*sz=n*sz-i*sz:=Nat.sub_mul ..
 have aq:(n+m)*sz=n*sz+m*sz:=Nat.add_mul ..
 have a5:0<n*sz:=Nat.mul_pos (by omega) h0
 have au:b<w.heap.size:=block_lt_of_cell (hcs 0 _ (List.getElem?_eq_getElem (by omega)))
 have ap:vb<w.heap.size:=block_lt_of_cell (hvs 0 _ (List.getElem?_eq_getElem (by omega)))
 have af:(n:Int)+(m:Int)-(i:Int)=((n+m-i:Nat):Int):=by omega
 have o:i+(n+m-i)=n+m:=by omega
 have l:(Builtin.firstCells i0.size i (.slice (some ⟨b,off,none⟩) i c)).run P w.drew = .ok (cs.take (i*sz)).toArray w.drew:=by
  rw [u]
  exact run_firstCells_some w.drew sz i ⟨b,off,none⟩ i c (cs.take (i*sz)) (by rw [List.length_take];omega) (fun j v hj=>by
   rw [Addr.add_lit]
   rw [List.getElem?_take] at hj
   split at hj
   ·
    exact hcs j v hj
   ·
    cases hj)
 have p:n+m≤maxLen:=by unfold maxLen;omega
 have k:∀ ty,(Builtin.append_ #[(ρ.t 24),(ρ.t 3)] ty #[.slice (some ⟨b,off,none⟩) i c,.int .i64 ((n:Int)+(m:Int)-(i:Int))]).run P w =
   .ok (.slice (some ⟨w.heap.size,0,none⟩) (n+m) (grownCap w (n+m) c (ρ.t 9))) (w.drew.alloc (.cells ((cs.take (i*sz)).toArray++Builtin.zeroCells z.cells (n+m-i)++Builtin.zeroCells z.cells (grownCap w (n+m) c (ρ.t 9)-(n+m))) (ρ.t 9))):=fun ty=>by
  have ao:(n+m-i)*i0.bytes≤(n+m)*i0.bytes:=Nat.mul_le_mul_right _ (by omega)
  have h:=Lib.run_append_grow_zeros w (ρ.t 24) (ρ.t 3) ty (ρ.t 9) i0 _ .i64 .i64 L.t24 L.t3 aa ax (some ⟨b,off,none⟩) i c (cs.take (i*sz)) l (n+m-i) (by omega) (by omega) (by omega) (by omega) (by rw [ab] at ao ⊢; omega) (by rw [ab,o];exact growslice_fits hroom hbig)
  rw [o] at h
  rw [af]
  exact h
 obtain ⟨G,hG⟩:∃ G,G=grownCap w (n+m) c (ρ.t 9):=⟨_,rfl⟩
 have a8:n+m≤G:=by rw [hG];exact grownCap_ge w _ _ _
 have az:G≤9223372036854775807:=by
  have:=grownCap_le_maxLen w (n+m) c (ρ.t 9) p
  rw [←hG] at this
  unfold maxLen at this
  omega
 obtain ⟨ROW,hROW⟩:∃ ROW:Array Value,ROW=(cs.take (i*sz)).toArray++Builtin.zeroCells z.cells (n+m-i)++Builtin.zeroCells z.cells (G-(n+m)):=⟨_,rfl⟩
 rw [←hG] at k ⊢
 rw [←hROW] at k ⊢
 have ar:n*sz+m*sz≤ROW.size:=by
  have e1:(n+m-i)*sz=n*sz+m*sz-i*sz:=by rw [Nat.sub_mul,aq]
  rw [hROW]
  simp only [Array.size_append,List.size_toArray,List.length_take,size_zeroCells,hzc]
  omega
 obtain ⟨W1,hW1⟩:∃ W1,W1=w.drew.alloc (.cells ROW (ρ.t 9)):=⟨_,rfl⟩
 rw [←hW1] at k
 have hN:∀ j,j<n*sz+m*sz→(W1.cell? ⟨w.heap.size,j,none⟩).isSome=true:=fun j hj=>by
  rw [hW1,World.cell?_alloc_at (w:=w.drew) ROW _ w.heap.size j rfl,Array.getElem?_eq_getElem (by omega)];rfl
 have r:∀ j,W1.frozen? ⟨w.heap.size,j,none⟩=false:=fun j=>by rw [hW1];exact World.frozen?_alloc_at (w:=w.drew) ROW _ w.heap.size j rfl
 have ak:∀ j v,w.cell? ⟨b,j,none⟩=some v→W1.cell? ⟨b,j,none⟩=some v:=fun j v h=>by rw [hW1,World.cell?_alloc_past (w:=w.drew) _ b j au];exact h
 have ah:∀ j v,w.cell? ⟨vb,j,none⟩=some v→W1.cell? ⟨vb,j,none⟩=some v:=fun j v h=>by rw [hW1,World.cell?_alloc_past (w:=w.drew) _ vb j ap];exact h
 have ad:∀ (W:World),(∀ x,W.cell? x=W1.cell? x)→(∀ x,W.frozen? x=W1.frozen? x)→∀ ty dc,(Builtin.copy_ #[(ρ.t 24),(ρ.t 24)] ty #[.slice (some ⟨w.heap.size,i*sz,none⟩) (n+m-i) dc,.slice (some ⟨vb,voff,none⟩) m vc]).run P W = .ok (goInt m) (W.setCells w.heap.size (i*sz) vs):=fun W d q ty dc=>by
  have a:Nat.min m (n+m-i)=m:=by simp only [Nat.min_def];split<;>omega
  have:=Ziz (P:=P) W (ρ.t 24) (ρ.t 24) ty (ρ.t 9) w.heap.size (i*sz) (n+m-i) dc ⟨vb,voff,none⟩ m vc vs L.t24 ae (by rw [hvl,a])
   (fun j v hj=>by rw [Addr.add_lit,d];exact ah _ v (hvs j v hj))
   (fun j hj=>by rw [d];exact hN _ (by omega)) (fun j hj=>by rw [q];exact r _) h1v
  rwa [a] at this
 have ba:¬ (G=i):=by omega
 have a2:¬ (G=i+m):=by omega
 have bi:¬ (c=i):=by omega
 have av:b≠w.heap.size:=by omega
 have ay:(cs.drop (i*sz)).length=n*sz-i*sz:=by rw [List.length_drop,hcl]
 have g:∀ (W:World),(∀ x,W.cell? x=(W1.setCells w.heap.size (i*sz) vs).cell? x)→(∀ x,W.frozen? x=(W1.setCells w.heap.size (i*sz) vs).frozen? x)→∀ ty dc sc,(Builtin.copy_ #[(ρ.t 24),(ρ.t 24)] ty #[.slice (some ⟨w.heap.size,i*sz+m*sz,none⟩) (n+m-(i+m)) dc,.slice (some ⟨b,off+i*sz,none⟩) (n-i) sc]).run P W = .ok (goInt ((n-i:Nat):Int)) (W.setCells w.heap.size (i*sz+m*sz) (cs.drop (i*sz))):=fun W d q ty dc sc=>by
  have a:Nat.min (n-i) (n+m-(i+m))=n-i:=by simp only [Nat.min_def];split<;>omega
  have:=Ziz (P:=P) W (ρ.t 24) (ρ.t 24) ty (ρ.t 9) w.heap.size (i*sz+m*sz) (n+m-(i+m)) dc ⟨b,off+i*sz,none⟩ (n-i) sc (cs.drop (i*sz)) L.t24 ae (by rw [ay,a,y])
   (fun j v hj=>by
    rw [Addr.add_lit,d,World.cell?_setCells_out _ _ _ _ _ (fun h _=>absurd h av),Nat.add_assoc]
    exact ak _ v (hcs (i*sz+j) v (by rwa [List.getElem?_drop] at hj)))
   (fun j hj=>by rw [d];exact isSome_setCells _ _ _ _ (fun t ht=>hN _ (by omega)) _ (hN _ (by omega)))
   (fun j hj=>by rw [q,World.frozen?_setCells];exact r _) (fun v hv=>h1c v (List.mem_of_mem_drop hv))
  rwa [a] at this
 subst hW1
 have aw:∀ x,((w.alloc (.cells ROW (ρ.t 9))).drew).cell? x=(w.drew.alloc (.cells ROW (ρ.t 9))).cell? x:=fun x=>rfl
 have ag:∀ x,((w.alloc (.cells ROW (ρ.t 9))).drew).frozen? x=(w.drew.alloc (.cells ROW (ρ.t 9))).frozen? x:=fun x=>rfl
 have am:∀ x,(((w.alloc (.cells ROW (ρ.t 9))).drew.setCells w.heap.size (i*sz) vs).drew).cell? x=((w.drew.alloc (.cells ROW (ρ.t 9))).setCells w.heap.size (i*sz) vs).cell? x:=fun x=>rfl
 have ai:∀ x,(((w.alloc (.cells ROW (ρ.t 9))).drew.setCells w.heap.size (i*sz) vs).drew).frozen? x=((w.drew.alloc (.cells ROW (ρ.t 9))).setCells w.heap.size (i*sz) vs).frozen? x:=fun x=>rfl
 have a7:IntKind.i64.wrap ((i:Int)+(m:Int))=(i:Int)+(m:Int):=by rw [IntKind.wrap_i64];omega
 have bl:(0:Int)≤(i:Int)+(m:Int):=by omega
 have bb:i≤n:=by omega
 have bc:((i:Int)+(m:Int)).toNat=i+m:=by omega
 have bj:(i:Int)≤(n:Int):=by omega
 clear af o l hROW hG ar
 have FG:=L.f22
 rw [←s] at g ⊢
 go_enter FG,Body2.n22_ntmps ρ
 go_wp2_with (first
  | (at_builtin;refine Lib.wpList_append_run _ rfl _ _ _ _ rfl _ _ rfl rfl _ _ (k _) ?_)
  | (at_builtin;refine wpList_copy_runI _ rfl _ _ (ρ.t 24) (ρ.t 24) rfl _ _ rfl rfl (ad _ aw ag _ _) ?_)
  | (at_builtin;refine wpList_copy_runI _ rfl _ _ (ρ.t 24) (ρ.t 24) rfl _ _ rfl rfl (g _ (fun _=>rfl) (fun _=>rfl) _ _ _) ?_))
 go_region_law_o (refine step_copy_runI rfl _ _ (ρ.t 24) (ρ.t 24) rfl (.slice (some ⟨w.heap.size,(i+m)*sz,none⟩) (n+m-(i+m)) (G-(i+m))) (.slice (some ⟨b,off+i*sz,none⟩) (n-i) (c-i)) (by simp [Act.eval,Act.put]) (by simp [Act.eval,Act.put]) (g _ am ai (ρ.t 3) (G-(i+m)) (c-i)) ?_)
 go_wp2
 go_ret
 exact ⟨rfl,by rw [s]⟩
theorem Zzw (L:InsLay P ρ nm sz bytes z) (base:Option Addr) (n c:Nat) (va:Addr) (m vc:Nat) (w w1:World) (r:Value) (hm:0<m) (hnc:n≤c) (hbase:base=none→n=0)
  (hrun:∀ ty,(Builtin.append_ #[(ρ.t 24),(ρ.t 24)] ty #[.slice base n c,.slice (some va) m vc]).run P w = .ok r w1) :
  Calls P (ρ.f 22) #[.slice base n c,.int .i64 n,.slice (some va) m vc] w fun e w'=>e = .returned r∧w'=w1:=by
 have t0:=L.t0;have a0:=L.a0;have z0:=L.z0;have v0:=L.v0;have t3:=L.t3;have a3:=L.a3;have z3:=L.z3;have v3:=L.v3;have t4:=L.t4;have a4:=L.a4;have z4:=L.z4;have v4:=L.v4;have z9:=L.z9;have i:=L.t24;have k:=L.a24;have h:=L.z24;have j:=L.v24
 have u0:=run_underlying L.t0;have u3:=run_underlying L.t3;have u4:=run_underlying L.t4;have d:=run_underlying L.t24
 have b:=L.mixed
 have l:¬ ((m:Int)=0):=by omega
 have FG:=L.f22
 go_enter FG,Body2.n22_ntmps ρ
 cases base with
 | none =>
  have h0:=hbase rfl
  subst h0
  go_wp2_with (at_builtin;refine Lib.wpList_append_run _ rfl _ _ _ _ rfl _ _ rfl rfl _ _ (hrun _) ?_)
  go_ret
  exact ⟨rfl,rfl⟩
 | some a =>
  obtain ⟨ab,ao,g⟩:=a
  go_wp2_with (at_builtin;refine Lib.wpList_append_run _ rfl _ _ _ _ rfl _ _ rfl rfl _ _ (hrun _) ?_)
  all_goals (go_ret;exact ⟨rfl,rfl⟩)
end
end Go.Ev
