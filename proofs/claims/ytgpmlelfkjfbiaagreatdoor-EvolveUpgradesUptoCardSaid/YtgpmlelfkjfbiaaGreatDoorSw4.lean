/-
  Part 4 of the proof: rules and walks that the claim's last text uses.
-/
import Derived.Test.YtgpmlelfkjfbiaaGreatDoorSw3
set_option linter.unusedSimpArgs false
set_option linter.unusedVariables false
set_option maxRecDepth 100000
set_option maxHeartbeats 4000000
namespace Go.Proofs.YtgpmlelfkjfbiaaGreatDoor
open Go Go.RowKit Go.Ev
theorem ZyP {a b:ByteArray} (h:a.data.toList=b.data.toList):a=b:=by
 cases a;cases b;simp at h;rw [h]
theorem ZuM:∀ a b:List UInt8,Lib.compareBytes a b=0→a=b
 | [],[],_=>rfl
 | [],_::_,h=>absurd (show (-1:Int)=0 from h) (by decide)
 | _::_,[],h=>absurd (show (1:Int)=0 from h) (by decide)
 | x::a,y::b,h=>by
  simp only [Lib.compareBytes] at h
  by_cases h1:x<y
  ·
   simp [h1] at h
  ·
   by_cases h2:y<x
   ·
    simp [h1,h2] at h
   ·
    simp only [h1,h2,if_false] at h
    rw [ZuM a b h]
    have:x=y:=by
     rw [UInt8.lt_iff_toNat_lt] at h1 h2
     exact UInt8.toNat_inj.1 (by omega)
    rw [this]
theorem ZhW (a b:ByteArray):Zg9 a b=0↔a=b:=by
 unfold Zg9
 constructor
 ·
  intro h;exact ZyP (ZuM _ _ h)
 ·
  rintro rfl;exact Zpu _
theorem Zfe (x y:ByteArray):sEq x y=true↔x=y:=by
 unfold sEq
 rw [beq_iff_eq]
 exact ⟨ZyP,fun h=>by rw [h]⟩
theorem ZpT (x:ByteArray):sEq x x=true:=(Zfe x x).2 rfl
theorem Znf {α:Type} (l m:List α) (i:Nat) (h1:i<l.length) (h2:i<m.length):l.drop i=m.drop i↔l[i]=m[i]∧l.drop (i+1)=m.drop (i+1):=by
 rw [List.drop_eq_getElem_cons h1,List.drop_eq_getElem_cons h2,List.cons.injEq]
theorem Zmf {n:Nat} (h:n≤1048576):n≤maxLen:=by unfold maxLen;omega
theorem Vl.ext' {a b:Vl} (h1:a.kind=b.kind) (h2:a.int=b.int) (h3:a.scale=b.scale) (h4:a.text=b.text) (h5:a.list=b.list) (h6:a.fields=b.fields):a=b:=by
 rw [←a.eta,←b.eta,h1,h2,h3,h4,h5,h6]
theorem TF.ext' {p q:TF} (h1:p.1=q.1) (h2:p.2.1=q.2.1) (h3:p.2.2.1=q.2.2.1) (h4:p.2.2.2.1=q.2.2.2.1) (h5:p.2.2.2.2=q.2.2.2.2):p=q:=by
 obtain ⟨a,b,c,d,e⟩:=p
 obtain ⟨a',b',c',d',e'⟩:=q
 simp only at h1 h2 h3 h4 h5
 rw [h1,h2,h3,h4,h5]
theorem Ty.ext' {a b:Ty} (h1:a.kind=b.kind) (h2:a.min=b.min) (h3:a.max=b.max) (h4:a.scale=b.scale) (h5:a.words=b.words) (h6:a.elem=b.elem) (h7:a.fields=b.fields):a=b:=by
 rw [←a.eta,←b.eta,h1,h2,h3,h4,h5,h6,h7]
def ZlV (n:Nat)  : Option Int :=
 some (0)
def Zej (n:Nat) (a0:List (ByteArray × Vl)):Nat→Int→Option Int
 | 0,_=>none
 | m+1,x3_l10 =>
  if decide (x3_l10<((a0.length:Int))) then
   (idx a0 x3_l10).bind fun x16 =>
   if x16.1.size≤maxLen then
    if !(Zei x16.1) then
     some (12)
    else
     if decide (0<x3_l10) then
      if I64 (x3_l10-1) then
       (idx a0 (x3_l10-1)).bind fun x23 =>
       if sEq x16.1 x23.1 then
        some (7)
       else
        if I64 (x3_l10-1) then
         if sLt x16.1 x23.1 then
          some (24)
         else
          if I64 (x3_l10+1) then
           (Zej n a0 m) (x3_l10+1)
          else none
        else none
      else none
     else
      if I64 (x3_l10+1) then
       (Zej n a0 m) (x3_l10+1)
      else none
   else none
  else
   ZlV n 
def Zkp (n:Nat) (a0:List (ByteArray × Vl)):Option Int :=
 if decide (64<((a0.length:Int))) then
  some (9)
 else
  Zej n a0 n 0
def Zqw (a0:Vl):Bool :=
 (((((decide (a0.kind=0))&&(decide (a0.int=0)))&&(decide (a0.scale=0)))&&(sEq a0.text ((⟨#[]⟩:ByteArray))))&&(decide (((a0.list.length:Int))=0)))&&(decide (((a0.fields.length:Int))=0))
def ZaY (a0:Int) (a1:Int) (a2:Int):Bool :=
 (decide (a0<a1))||(decide (a2<a0))
def Zby (a0:Vl):Bool :=
 (((((!((((decide (1≤a0.kind))&&(decide (a0.kind≤3)))||(decide (a0.kind=6)))||(decide (a0.kind=7))))&&(!(decide (a0.int=0))))||((!(decide (a0.kind=3)))&&(!(decide (a0.scale=0)))))||((!(((decide (a0.kind=4))||(decide (a0.kind=5)))||(decide (a0.kind=10))))&&(!(sEq a0.text ((⟨#[]⟩:ByteArray))))))||((!((decide (a0.kind=8))||(decide (a0.kind=10))))&&(decide (0<((a0.list.length:Int))))))||((!(decide (a0.kind=9)))&&(decide (0<((a0.fields.length:Int)))))
def Zec (n:Nat)  : Option Int :=
 some (0)
def Zln (n:Nat) (a0:Vl) (x51_k31:Bool):Option Int :=
 if x51_k31 then
  if decide (1024<((a0.text.size:Int))) then
   some (5)
  else
   if decide (a0.kind=4) then
    if a0.text.size≤maxLen then
     if !(Lib.validD a0.text.data.toList) then
      some (16)
     else
      Zec n 
    else none
   else
    Zec n 
 else
  if decide (a0.kind=6) then
   if ZaY a0.int ((-719162)) 2932896 then
    some (2)
   else
    Zec n 
  else
   if decide (a0.kind=7) then
    if ZaY a0.int ((-62135596800000)) 253402300799999 then
     some (2)
    else
     Zec n 
   else
    if decide (a0.kind=8) then
     if decide (256<((a0.list.length:Int))) then
      some (9)
     else
      Zec n 
    else
     if decide (a0.kind=9) then
      (Zkp n a0.fields).bind fun y64 =>
      some (y64)
     else
      if a0.text.size≤maxLen then
       if !(Zei a0.text) then
        some (12)
       else
        if decide (((a0.list.length:Int))=0) then
         some (4)
        else
         if decide (1<((a0.list.length:Int))) then
          some (3)
         else
          Zec n 
      else none
def ZlA (n:Nat) (a0:Vl) (x40_k22:Bool):Option Int :=
 if x40_k22 then
  if (ZaY a0.int ((-999999999999999)) 999999999999999)||(ZaY a0.scale 0 12) then
   some (2)
  else
   Zec n 
 else
  if decide (a0.kind=4) then
   Zln n a0 true
  else
   Zln n a0 (decide (a0.kind=5))
def Zpl (n:Nat) (a0:Vl):Option Int :=
 if Zqw a0 then
  some (19)
 else
  if (decide (a0.kind<1))||(decide (10<a0.kind)) then
   some (11)
  else
   if Zby a0 then
    some (3)
   else
    if decide (a0.kind=1) then
     if ZaY a0.int 0 1 then
      some (2)
     else
      Zec n 
    else
     if decide (a0.kind=2) then
      ZlA n a0 true
     else
      ZlA n a0 (decide (a0.kind=3))
def Zh3 (n:Nat)  (x3_k4:List Vl):Option ((List Vl)) :=
 some (x3_k4)
def Zgd (n:Nat) (a0:Vl):Nat→(List Vl)→Int→Option ((List Vl))
 | 0,_,_=>none
 | m+1,x3_l21,x4_l21 =>
  if decide (x4_l21<((a0.fields.length:Int))) then
   (idx a0.fields x4_l21).bind fun x26 =>
   if (x3_l21.length+1)*88≤140737488355328∧x3_l21.length+1≤4611686018427387904 then
    if I64 (x4_l21+1) then
     (Zgd n a0 m) (x3_l21++([x26.2])) (x4_l21+1)
    else none
   else none
  else
   Zh3 n x3_l21
def ZgQ (n:Nat) (a0:Vl) (x7_k8:Bool):Option ((List Vl)) :=
 if x7_k8 then
  if (0+a0.list.length)*88≤140737488355328∧0+a0.list.length≤4611686018427387904 then
   Zh3 n a0.list
  else none
 else
  if decide (a0.kind=9) then
   Zgd n a0 n ([]) 0
  else
   Zh3 n ([])
def ZjQ (n:Nat) (a0:Vl):Option ((List Vl)) :=
 if decide (a0.kind=8) then
  ZgQ n a0 true
 else
  ZgQ n a0 (decide (a0.kind=10))
def Zl2 (n:Nat) (again_l8:(List Itm)→Int→Option Int) (x4_l8:Int) (x3_k13:List Itm):Option Int :=
 if I64 (x4_l8+1) then
  again_l8 x3_k13 (x4_l8+1)
 else none
def ZrO (n:Nat)  : Option Int :=
 some (0)
def Zf8 (n:Nat) (again_l8:(List Itm)→Int→Option Int) (x4_l8:Int) (x17:Itm) (y35:(List Vl)):Nat→(List Itm)→Int→Option Int
 | 0,_,_=>none
 | m+1,x3_l38,x8_l38 =>
  if decide (0≤x8_l38) then
   (idx y35 x8_l38).bind fun x43 =>
   if I64 (x17.level+1) then
    if (x3_l38.length+1)*96≤140737488355328∧x3_l38.length+1≤4611686018427387904 then
     if I64 (x8_l38-1) then
      (Zf8 n again_l8 x4_l8 x17 y35 m) (x3_l38++([Itm.mk x43 (x17.level+1)])) (x8_l38-1)
     else none
    else none
   else none
  else
   Zl2 n again_l8 x4_l8 x3_l38
def Zg7 (n:Nat)  : Nat→(List Itm)→Int→Option Int
 | 0,_,_=>none
 | m+1,x3_l8,x4_l8 =>
  if decide (0<((x3_l8.length:Int))) then
   if I64 (((x3_l8.length:Int))-1) then
    (idx x3_l8 (((x3_l8.length:Int))-1)).bind fun x17 =>
    if I64 (((x3_l8.length:Int))-1) then
     if 0≤((x3_l8.length:Int))-1∧((x3_l8.length:Int))-1≤(x3_l8.length:Int) then
      if decide (4096≤x4_l8) then
       some (9)
      else
       if decide (8<x17.level) then
        some (23)
       else
        (Zpl n x17.v).bind fun y30 =>
        if !(decide (y30=0)) then
         some (y30)
        else
         (ZjQ n x17.v).bind fun y35 =>
         if I64 (((y35.length:Int))-1) then
          Zf8 n (Zg7 n m) x4_l8 x17 y35 n (x3_l8.take (((x3_l8.length:Int))-1).toNat) (((y35.length:Int))-1)
         else none
     else none
    else none
   else none
  else
   ZrO n 
def ZhS (n:Nat) (a0:Vl):Option Int :=
 Zg7 n n ([Itm.mk a0 1]) 0
def Za8 (a0:Vl):Bool :=
 (((((decide (a0.kind=0))&&(decide (a0.int=0)))&&(decide (a0.scale=0)))&&(sEq a0.text ((⟨#[]⟩:ByteArray))))&&(decide (((a0.list.length:Int))=0)))&&(decide (((a0.fields.length:Int))=0))
theorem Zr4 (w0:World) (B:List (List AV)) (Rw:List RowA) (L:List LoopA) (a0:Vl) (r:Bool) (h:Za8 a0=r) :
  ACalls Tryz.prog w0 62 [.agg (a0.cs)] ⟨B,Rw,L⟩ fun x st=>x = .val (.bool r)∧st=⟨B,Rw,L⟩:=by
 rw [Za8] at h
 refine hd [.tmp 2] Tryz.func62 Tryz.ntmps62 fun M0 W0 hN b c a hu hO hs=>?_
 simp only [Zaq]
 refine rg [1] hs ?_
 refine rg [2] hs ?_
 exact rT h hs a hO
theorem Zi6 (w0:World) (B:List (List AV)) (Rw:List RowA) (L:List LoopA) (a0:Vl) :
  ACalls Tryz.prog w0 62 [.agg (a0.cs)] ⟨B,Rw,L⟩ fun x st=>x = .val (.bool (Za8 a0))∧st=⟨B,Rw,L⟩:=Zr4 w0 B Rw L a0 _ rfl
def Zbr (a0:Int) (a1:Int) (a2:Int):Int :=
 if (decide (a0<a1))||(decide (a2<a0)) then
  2
 else
  0
theorem Zqx (w0:World) (B:List (List AV)) (Rw:List RowA) (L:List LoopA) (a0:Int) (a1:Int) (a2:Int) (r:Int) (h:Zbr a0 a1 a2=r) :
  ACalls Tryz.prog w0 109 [.val (.int .i64 a0),.val (.int .i64 a1),.val (.int .i64 a2)] ⟨B,Rw,L⟩ fun x st=>x = .val (.int .i64 r)∧st=⟨B,Rw,L⟩:=by
 rw [Zbr] at h
 refine hd [.tmp 6] Tryz.func109 Tryz.ntmps109 fun M0 W0 hN c d a hu hO hs=>?_
 simp only [Zaq]
 refine rg [0,1,2] hs ?_
 apply Zaa;intro K2 b
 refine rg [14] hs ?_
 refine cnd h hs (fun hs h=>?_) (fun hs h=>?_)
 ·
  refine rg [6] hs ?_
  exact rT h hs a hO
 refine sk [] hs b ?_
 clear b
 refine rg [6] hs ?_
 exact rT h hs a hO
theorem Zeg (w0:World) (B:List (List AV)) (Rw:List RowA) (L:List LoopA) (a0:Int) (a1:Int) (a2:Int) :
  ACalls Tryz.prog w0 109 [.val (.int .i64 a0),.val (.int .i64 a1),.val (.int .i64 a2)] ⟨B,Rw,L⟩ fun x st=>x = .val (.int .i64 (Zbr a0 a1 a2))∧st=⟨B,Rw,L⟩:=Zqx w0 B Rw L a0 a1 a2 _ rfl
def ZdY (a0:Vl):Int :=
 Zbr a0.int 0 1
theorem Zp4 (w0:World) (B:List (List AV)) (Rw:List RowA) (L:List LoopA) (a0:Vl) (r:Int) (h:ZdY a0=r) :
  ACalls Tryz.prog w0 108 [.agg (a0.cs)] ⟨B,Rw,L⟩ fun x st=>x = .val (.int .i64 r)∧st=⟨B,Rw,L⟩:=by
 rw [ZdY] at h
 refine hd [.tmp 2] Tryz.func108 Tryz.ntmps108 fun M0 W0 hN c d a hu hO hs=>?_
 simp only [Zaq]
 refine rg [1] hs ?_
 refine rc 2 [2] hs ?_;intro K2 b
 refine Zac _ (Zeg w0 _ _ _ a0.int 0 1) (hv hs) ?_
 refine ne hs b ?_
 clear b
 exact rT h hs a hO
theorem ZpH (w0:World) (B:List (List AV)) (Rw:List RowA) (L:List LoopA) (a0:Vl) :
  ACalls Tryz.prog w0 108 [.agg (a0.cs)] ⟨B,Rw,L⟩ fun x st=>x = .val (.int .i64 (ZdY a0))∧st=⟨B,Rw,L⟩:=Zp4 w0 B Rw L a0 _ rfl
def Zcd (a0:Int) (a1:Int) (a2:Int):Int :=
 if decide (a1<a0) then
  a2
 else
  0
theorem ZvX (w0:World) (B:List (List AV)) (Rw:List RowA) (L:List LoopA) (a0:Int) (a1:Int) (a2:Int) (r:Int) (h:Zcd a0 a1 a2=r) :
  ACalls Tryz.prog w0 114 [.val (.int .i64 a0),.val (.int .i64 a1),.val (.int .i64 a2)] ⟨B,Rw,L⟩ fun x st=>x = .val (.int .i64 r)∧st=⟨B,Rw,L⟩:=by
 rw [Zcd] at h
 refine hd [.tmp 6] Tryz.func114 Tryz.ntmps114 fun M0 W0 hN c d a hu hO hs=>?_
 simp only [Zaq]
 refine rg [0,1,2] hs ?_
 apply Zaa;intro K2 b
 refine rg [2,9] hs ?_
 refine cnd h hs (fun hs h=>?_) (fun hs h=>?_)
 ·
  refine rg [6] hs ?_
  exact rT h hs a hO
 refine sk [] hs b ?_
 clear b
 refine rg [6] hs ?_
 exact rT h hs a hO
theorem ZhK (w0:World) (B:List (List AV)) (Rw:List RowA) (L:List LoopA) (a0:Int) (a1:Int) (a2:Int) :
  ACalls Tryz.prog w0 114 [.val (.int .i64 a0),.val (.int .i64 a1),.val (.int .i64 a2)] ⟨B,Rw,L⟩ fun x st=>x = .val (.int .i64 (Zcd a0 a1 a2))∧st=⟨B,Rw,L⟩:=ZvX w0 B Rw L a0 a1 a2 _ rfl
def Zgi (a0:Vl):Option Int :=
 if a0.text.size≤maxLen then
  if !(Zei a0.text) then
   some (12)
  else
   if decide (((a0.list.length:Int))=0) then
    some (4)
   else
    some (Zcd ((a0.list.length:Int)) 1 3)
 else none
theorem ZpG (w0:World) (B:List (List AV)) (Rw:List RowA) (L:List LoopA) (a0:Vl) (r:Int) (h:Zgi a0=some r) :
  ACalls Tryz.prog w0 121 [.agg (a0.cs)] ⟨B,Rw,L⟩ fun x st=>x = .val (.int .i64 r)∧st=⟨B,Rw,L⟩:=by
 rw [Zgi] at h
 refine hd [.tmp 2] Tryz.func121 Tryz.ntmps121 fun M0 W0 hN f g a hu hO hs=>?_
 simp only [Zaq]
 refine rg [1] hs ?_
 apply Zaa;intro K2 c
 apply Zad
 obtain ⟨e,h⟩:=Zab h
 refine rc 2 [1,3] hs ?_;intro K3 d
 refine Zac _ (Zno w0 _ _ _ a0.text e) (hv hs) ?_
 refine ne hs d ?_
 clear d
 refine cnd h hs (fun hs h=>?_) (fun hs h=>?_)
 ·
  refine rg [2] hs ?_
  exact rt h hs a hO
 refine rg [1,8] hs ?_
 refine cnd h hs (fun hs h=>?_) (fun hs h=>?_)
 ·
  refine rg [2] hs ?_
  exact rt h hs a hO
 refine sk [1] hs c ?_
 clear c
 refine rc 2 [2] hs ?_;intro K10 b
 refine Zac _ (ZhK w0 _ _ _ ((a0.list.length:Int)) 1 3) (hv hs) ?_
 refine ne hs b ?_
 clear b
 exact rt h hs a hO
def ZdI (a0:Vl):Int :=
 Zbr a0.int ((-999999999999999)) 999999999999999
theorem Zrn (w0:World) (B:List (List AV)) (Rw:List RowA) (L:List LoopA) (a0:Vl) (r:Int) (h:ZdI a0=r) :
  ACalls Tryz.prog w0 110 [.agg (a0.cs)] ⟨B,Rw,L⟩ fun x st=>x = .val (.int .i64 r)∧st=⟨B,Rw,L⟩:=by
 rw [ZdI] at h
 refine hd [.tmp 2] Tryz.func110 Tryz.ntmps110 fun M0 W0 hN c d a hu hO hs=>?_
 simp only [Zaq]
 refine rg [1] hs ?_
 refine rc 2 [2] hs ?_;intro K2 b
 refine Zac _ (Zeg w0 _ _ _ a0.int ((-999999999999999)) 999999999999999) (hv hs) ?_
 refine ne hs b ?_
 clear b
 exact rT h hs a hO
theorem Zpk (w0:World) (B:List (List AV)) (Rw:List RowA) (L:List LoopA) (a0:Vl) :
  ACalls Tryz.prog w0 110 [.agg (a0.cs)] ⟨B,Rw,L⟩ fun x st=>x = .val (.int .i64 (ZdI a0))∧st=⟨B,Rw,L⟩:=Zrn w0 B Rw L a0 _ rfl
def ZjN (n:Nat)  : Option Int :=
 some (0)
def ZfK (n:Nat) (a0:List Int):Nat→Int→Option Int
 | 0,_=>none
 | m+1,x7_l6 =>
  if decide (x7_l6<((a0.length:Int))) then
   (idx a0 x7_l6).bind fun x12 =>
   if !(decide (x12=0)) then
    some (x12)
   else
    if I64 (x7_l6+1) then
     (ZfK n a0 m) (x7_l6+1)
    else none
  else
   ZjN n 
def Zi3 (n:Nat) (a0:List Int):Option Int :=
 ZfK n a0 n 0
theorem ZtO (w0:World) (n:Nat) (B:List (List AV)) (Rw:List RowA) (L:List LoopA) (a0:List Int) (r:Int) (h:Zi3 n a0=some r) :
  ACalls Tryz.prog w0 112 [.list (a0.map avI) .none] ⟨B,Rw,L⟩ fun x st=>x = .val (.int .i64 r)∧st=⟨B,Rw,L⟩:=by
 rw [Zi3] at h
 refine hd [.tmp 2] Tryz.func112 Tryz.ntmps112 fun M0 W0 hN j l a hu hO hs=>?_
 simp only [Zaq]
 refine rg [0] hs ?_
 refine Zak (fun e st=>Ck e st B Rw L [] [] [] (ZjN n  = some r)) ?_ ?_
 ·
  intro K4 o
  refine rg [5,6,7] hs ?_
  apply Zad
  refine Zao (fun m e st=>∃ (b:Int),Ck e st B Rw L [(5,true,.list (a0.map avI) .none),(6,true,.val (.int .i64 ((a0.length:Int)))),(7,true,.val (.int .i64 b))] [] [] (ZfK n a0 m b=some r)) n ⟨0,([]),Rw,ef hs,ef hs,hO,h⟩ ?_
  rintro ml6 e st ⟨b,Xl6,Rl6,rfl,rfl,hO,h⟩ Ul6 Vl6
  cases ml6 with
  | zero=>cases h
  | succ ml6 =>
  rw [ZfK] at h
  refine td hN j l a hO ?_
  refine rg [5,6,7,8] hs ?_
  apply Zaa;intro K8 k
  refine cnd h hs (fun hs h=>?_) (fun hs h=>?_)
  rotate_left
  ·
   refine sx [] hs o ?_
   exact ⟨([]),Rl6,ef hs,ef hs,hO,h⟩
  refine sk [5,6,7] hs k ?_
  clear k
  apply Zaa;intro K10 c
  apply Zad
  obtain ⟨u,i,h⟩:=bind_some h
  obtain ⟨q,p,d⟩:=Zan i
  have g:=Zap (f:=avI) d
  have hs:=And.intro g hs
  refine rg [4,5,6,7] hs ?_
  refine rg [4,5,6,7,12] hs ?_
  refine cnd h hs (fun hs h=>?_) (fun hs h=>?_)
  ·
   refine rg [2] hs ?_
   exact rt h hs a hO
  refine sk [5,6,7] hs c ?_
  clear c
  obtain ⟨t,h⟩:=Zab h
  refine rl [5,6,7] hs (fun e s=>Vl6 ml6 e s (Nat.lt_succ_self _)) ?_
  exact ⟨(b+1),([]),Rl6,ef hs,ef hs,hO,h⟩
 ·
  clear h;rintro e st ⟨Xk3,Rk3,rfl,rfl,hO,h⟩
  rw [ZjN] at h
  refine td hN j l a hO ?_
  refine rg [2] hs ?_
  exact rt h hs a hO
def Zg2 (n:Nat) (a0:Vl):Option Int :=
 (Zi3 n ([Zbr a0.int ((-999999999999999)) 999999999999999,Zbr a0.scale 0 12])).bind fun y3 =>
 some (y3)
theorem Zrv (w0:World) (n:Nat) (B:List (List AV)) (Rw:List RowA) (L:List LoopA) (a0:Vl) (r:Int) (h:Zg2 n a0=some r) :
  ACalls Tryz.prog w0 111 [.agg (a0.cs)] ⟨B,Rw,L⟩ fun x st=>x = .val (.int .i64 r)∧st=⟨B,Rw,L⟩:=by
 rw [Zg2] at h
 refine hd [.tmp 2] Tryz.func111 Tryz.ntmps111 fun M0 W0 hN d e a hu hO hs=>?_
 simp only [Zaq]
 refine rg [1] hs ?_
 obtain ⟨y3,c,h⟩:=bind_some h
 apply Zaa;intro K2 b
 refine dk 9 4 1 [2] hs mix ?_
 refine Zac _ (Zeg w0 _ _ _ a0.int ((-999999999999999)) 999999999999999) (hv hs) ?_
 refine nc hs ?_
 refine Zac _ (Zeg w0 _ _ _ a0.scale 0 12) (hv hs) ?_
 refine nc hs ?_
 refine Zac _ (ZtO w0 n _ _ _ ([Zbr a0.int ((-999999999999999)) 999999999999999,Zbr a0.scale 0 12]) _ c) (hv hs) ?_
 refine dn hs b ?_
 clear b
 exact rt h hs a hO
def Ze6  (x3_k4:Int):Option Int :=
 some (x3_k4)
def Zg0 (a0:Vl):Option Int :=
 if decide ((Zcd ((a0.text.size:Int)) 1024 5)=0) then
  if a0.text.size≤maxLen then
   if !(Lib.validD a0.text.data.toList) then
    Ze6  16
   else
    Ze6  (Zcd ((a0.text.size:Int)) 1024 5)
  else none
 else
  Ze6  (Zcd ((a0.text.size:Int)) 1024 5)
theorem Zq8 (w0:World) (hT:Lib.Utf8Tabs 0 1 w0) (B:List (List AV)) (Rw:List RowA) (L:List LoopA) (a0:Vl) (r:Int) (h:Zg0 a0=some r) :
  ACalls Tryz.prog w0 113 [.agg (a0.cs)] ⟨B,Rw,L⟩ fun x st=>x = .val (.int .i64 r)∧st=⟨B,Rw,L⟩:=by
 rw [Zg0] at h
 refine hd [.tmp 2] Tryz.func113 Tryz.ntmps113 fun M0 W0 hN g j b hu hO hs=>?_
 simp only [Zaq]
 refine rg [1] hs ?_
 refine rc 2 [1,3] hs ?_;intro K2 f
 refine Zac _ (ZhK w0 _ _ _ ((a0.text.size:Int)) 1024 5) (hv hs) ?_
 refine ne hs f ?_
 clear f
 refine Zak (fun e st=>∃ (a:Int),Ck e st B Rw L [(3,true,.val (.int .i64 a))] [a0.cs] [] (Ze6  a=some r)) ?_ ?_
 ·
  intro K5 d
  apply Zaa;intro K6 c
  rcases Bool.eq_false_or_eq_true (decide ((Zcd ((a0.text.size:Int)) 1024 5)=0)) with hf7 | hf7
  ·
   replace h:=Za9 h hf7
   obtain ⟨i,h⟩:=Zab h
   have hs:=And.intro hf7 hs
   refine rk 2 [3,15] hs ?_
   refine Zac _ (ZoQ w0 _ _ _ hT a0.text i) (hv hs) ?_
   refine ne hs c ?_
   clear c
   refine cnd h hs (fun hs h=>?_) (fun hs h=>?_)
   ·
    refine rl [3] hs d ?_
    exact ⟨16,([]),Rw,ef hs,ef hs,hO,h⟩
   refine sk [3] hs d ?_
   exact ⟨(Zcd ((a0.text.size:Int)) 1024 5),([]),Rw,ef hs,ef hs,hO,h⟩
  ·
   replace h:=Zba h hf7
   have hs:=And.intro hf7 hs
   refine rk 2 [3,15] hs ?_
   refine Zau ?_
   refine ne hs c ?_
   clear c
   refine ZaQ false ev (ef hs) (fun hb10=>by cases hb10) (fun hb10=>?_)
   refine sk [3] hs d ?_
   exact ⟨(Zcd ((a0.text.size:Int)) 1024 5),([]),Rw,ef hs,ef hs,hO,h⟩
 ·
  clear h;rintro e st ⟨a,Xk4,Rk4,rfl,rfl,hO,h⟩
  rw [Ze6] at h
  refine td hN g j b hO ?_
  refine rg [2] hs ?_
  exact rt h hs b hO
def ZdL (a0:Vl):Int :=
 Zcd ((a0.text.size:Int)) 1024 5
theorem ZqQ (w0:World) (B:List (List AV)) (Rw:List RowA) (L:List LoopA) (a0:Vl) (r:Int) (h:ZdL a0=r) :
  ACalls Tryz.prog w0 116 [.agg (a0.cs)] ⟨B,Rw,L⟩ fun x st=>x = .val (.int .i64 r)∧st=⟨B,Rw,L⟩:=by
 rw [ZdL] at h
 refine hd [.tmp 2] Tryz.func116 Tryz.ntmps116 fun M0 W0 hN c d a hu hO hs=>?_
 simp only [Zaq]
 refine rg [1] hs ?_
 refine rc 2 [2] hs ?_;intro K2 b
 refine Zac _ (ZhK w0 _ _ _ ((a0.text.size:Int)) 1024 5) (hv hs) ?_
 refine ne hs b ?_
 clear b
 exact rT h hs a hO
theorem Zp0 (w0:World) (B:List (List AV)) (Rw:List RowA) (L:List LoopA) (a0:Vl) :
  ACalls Tryz.prog w0 116 [.agg (a0.cs)] ⟨B,Rw,L⟩ fun x st=>x = .val (.int .i64 (ZdL a0))∧st=⟨B,Rw,L⟩:=ZqQ w0 B Rw L a0 _ rfl
def ZdV (a0:Vl):Int :=
 Zbr a0.int ((-719162)) 2932896
theorem Zq0 (w0:World) (B:List (List AV)) (Rw:List RowA) (L:List LoopA) (a0:Vl) (r:Int) (h:ZdV a0=r) :
  ACalls Tryz.prog w0 117 [.agg (a0.cs)] ⟨B,Rw,L⟩ fun x st=>x = .val (.int .i64 r)∧st=⟨B,Rw,L⟩:=by
 rw [ZdV] at h
 refine hd [.tmp 2] Tryz.func117 Tryz.ntmps117 fun M0 W0 hN c d a hu hO hs=>?_
 simp only [Zaq]
 refine rg [1] hs ?_
 refine rc 2 [2] hs ?_;intro K2 b
 refine Zac _ (Zeg w0 _ _ _ a0.int ((-719162)) 2932896) (hv hs) ?_
 refine ne hs b ?_
 clear b
 exact rT h hs a hO
theorem Zpx (w0:World) (B:List (List AV)) (Rw:List RowA) (L:List LoopA) (a0:Vl) :
  ACalls Tryz.prog w0 117 [.agg (a0.cs)] ⟨B,Rw,L⟩ fun x st=>x = .val (.int .i64 (ZdV a0))∧st=⟨B,Rw,L⟩:=Zq0 w0 B Rw L a0 _ rfl
def ZdW (a0:Vl):Int :=
 Zbr a0.int ((-62135596800000)) 253402300799999
theorem Zqa (w0:World) (B:List (List AV)) (Rw:List RowA) (L:List LoopA) (a0:Vl) (r:Int) (h:ZdW a0=r) :
  ACalls Tryz.prog w0 118 [.agg (a0.cs)] ⟨B,Rw,L⟩ fun x st=>x = .val (.int .i64 r)∧st=⟨B,Rw,L⟩:=by
 rw [ZdW] at h
 refine hd [.tmp 2] Tryz.func118 Tryz.ntmps118 fun M0 W0 hN c d a hu hO hs=>?_
 simp only [Zaq]
 refine rg [1] hs ?_
 refine rc 2 [2] hs ?_;intro K2 b
 refine Zac _ (Zeg w0 _ _ _ a0.int ((-62135596800000)) 253402300799999) (hv hs) ?_
 refine ne hs b ?_
 clear b
 exact rT h hs a hO
theorem Zph (w0:World) (B:List (List AV)) (Rw:List RowA) (L:List LoopA) (a0:Vl) :
  ACalls Tryz.prog w0 118 [.agg (a0.cs)] ⟨B,Rw,L⟩ fun x st=>x = .val (.int .i64 (ZdW a0))∧st=⟨B,Rw,L⟩:=Zqa w0 B Rw L a0 _ rfl
def Zd0 (a0:Vl):Int :=
 Zcd ((a0.list.length:Int)) 256 9
theorem Zrc (w0:World) (B:List (List AV)) (Rw:List RowA) (L:List LoopA) (a0:Vl) (r:Int) (h:Zd0 a0=r) :
  ACalls Tryz.prog w0 119 [.agg (a0.cs)] ⟨B,Rw,L⟩ fun x st=>x = .val (.int .i64 r)∧st=⟨B,Rw,L⟩:=by
 rw [Zd0] at h
 refine hd [.tmp 2] Tryz.func119 Tryz.ntmps119 fun M0 W0 hN c d a hu hO hs=>?_
 simp only [Zaq]
 refine rg [1] hs ?_
 refine rc 2 [2] hs ?_;intro K2 b
 refine Zac _ (ZhK w0 _ _ _ ((a0.list.length:Int)) 256 9) (hv hs) ?_
 refine ne hs b ?_
 clear b
 exact rT h hs a hO
theorem Zpp (w0:World) (B:List (List AV)) (Rw:List RowA) (L:List LoopA) (a0:Vl) :
  ACalls Tryz.prog w0 119 [.agg (a0.cs)] ⟨B,Rw,L⟩ fun x st=>x = .val (.int .i64 (Zd0 a0))∧st=⟨B,Rw,L⟩:=Zrc w0 B Rw L a0 _ rfl
def Zhb (n:Nat)  : Option Int :=
 some (0)
def ZcH (n:Nat) (a0:Vl):Nat→Int→Option Int
 | 0,_=>none
 | m+1,x16_l11 =>
  if decide (x16_l11<((a0.fields.length:Int))) then
   (idx a0.fields x16_l11).bind fun x17 =>
   if x17.1.size≤maxLen then
    if !(Zei x17.1) then
     some (12)
    else
     if decide (0<x16_l11) then
      if I64 (x16_l11-1) then
       (idx a0.fields (x16_l11-1)).bind fun x25 =>
       if sEq x17.1 x25.1 then
        some (7)
       else
        if I64 (x16_l11-1) then
         if sLt x17.1 x25.1 then
          some (24)
         else
          if I64 (x16_l11+1) then
           (ZcH n a0 m) (x16_l11+1)
          else none
        else none
      else none
     else
      if I64 (x16_l11+1) then
       (ZcH n a0 m) (x16_l11+1)
      else none
   else none
  else
   Zhb n 
def ZgV (n:Nat) (a0:Vl):Option Int :=
 if !(decide ((Zcd ((a0.fields.length:Int)) 64 9)=0)) then
  some (Zcd ((a0.fields.length:Int)) 64 9)
 else
  ZcH n a0 n 0
theorem Zra (w0:World) (n:Nat) (B:List (List AV)) (Rw:List RowA) (L:List LoopA) (a0:Vl) (r:Int) (h:ZgV n a0=some r) :
  ACalls Tryz.prog w0 120 [.agg (a0.cs)] ⟨B,Rw,L⟩ fun x st=>x = .val (.int .i64 r)∧st=⟨B,Rw,L⟩:=by
 rw [ZgV] at h
 refine hd [.tmp 2] Tryz.func120 Tryz.ntmps120 fun M0 W0 hN t u b hu hO hs=>?_
 simp only [Zaq]
 refine rg [1] hs ?_
 apply Zaa;intro K2 v
 refine rc 2 [1,3] hs ?_;intro K3 q
 refine Zac _ (ZhK w0 _ _ _ ((a0.fields.length:Int)) 64 9) (hv hs) ?_
 refine ne hs q ?_
 clear q
 refine rg [1,3,11] hs ?_
 refine cnd h hs (fun hs h=>?_) (fun hs h=>?_)
 ·
  refine rg [2] hs ?_
  exact rt h hs b hO
 refine sk [1] hs v ?_
 clear v
 refine Zak (fun e st=>Ck e st B Rw L [] [a0.cs] [] (Zhb n  = some r)) ?_ ?_
 ·
  intro K9 z
  refine rg [1,14,15,16] hs ?_
  apply Zad
  refine Zao (fun m e st=>∃ (a:Int),Ck e st B Rw L [(1,true,.box B.length 0),(14,true,.list (a0.fields.map avF) .none),(15,true,.val (.int .i64 ((a0.fields.length:Int)))),(16,true,.val (.int .i64 a))] [a0.cs] [] (ZcH n a0 m a=some r)) n ⟨0,([]),Rw,ef hs,ef hs,hO,h⟩ ?_
  rintro ml11 e st ⟨a,Xl11,Rl11,rfl,rfl,hO,h⟩ Ul11 Vl11
  cases ml11 with
  | zero=>cases h
  | succ ml11 =>
  rw [ZcH] at h
  refine td hN t u b hO ?_
  refine rg [1,14,15,16,17] hs ?_
  apply Zaa;intro K13 j
  refine cnd h hs (fun hs h=>?_) (fun hs h=>?_)
  rotate_left
  ·
   refine sx [] hs z ?_
   exact ⟨([]),Rl11,ef hs,ef hs,hO,h⟩
  refine sk [1,14,15,16] hs j ?_
  clear j
  apply Zaa;intro K15 c
  apply Zad
  obtain ⟨g,p,h⟩:=bind_some h
  obtain ⟨ad,ab,o⟩:=Zan p
  have l:=Zap (f:=avF) o
  have hs:=And.intro l hs
  refine rg [1,4,5,14,15,16] hs ?_
  apply Zad
  obtain ⟨w,h⟩:=Zab h
  refine rc 2 [1,4,5,14,15,16,21] hs ?_;intro K18 i
  refine Zac _ (Zno w0 _ _ _ g.1 w) (hv hs) ?_
  refine ne hs i ?_
  clear i
  refine cnd h hs (fun hs h=>?_) (fun hs h=>?_)
  ·
   refine rg [2] hs ?_
   exact rt h hs b hO
  apply Zaa;intro K22 d
  rcases Bool.eq_false_or_eq_true (decide (0<a)) with hf23 | hf23
  ·
   replace h:=Za9 h hf23
   obtain ⟨ae,h⟩:=Zab h
   obtain ⟨ai,aa,y,k,h⟩:=ix avF h
   have hs:=And.intro hf23 hs
   have hs:=And.intro k hs
   refine dl 15 1 1 [1,4,5,14,15,16,26] hs mix d ?_
   clear d
   refine cnd h hs (fun hs h=>?_) (fun hs h=>?_)
   ·
    refine rg [2] hs ?_
    exact rt h hs b hO
   obtain ⟨af,h⟩:=Zab h
   refine dg 15 1 1 [1,14,15,16,41] hs mix ?_
   refine cnd h hs (fun hs h=>?_) (fun hs h=>?_)
   ·
    refine rg [2] hs ?_
    exact rt h hs b hO
   refine sk [1,14,15,16] hs c ?_
   clear c
   obtain ⟨ag,h⟩:=Zab h
   refine rl [1,14,15,16] hs (fun e s=>Vl11 ml11 e s (Nat.lt_succ_self _)) ?_
   exact ⟨(a+1),([.val (.string g.1)::(g.2.cs)]),Rl11,ef hs,ef hs,hO,h⟩
  ·
   replace h:=Zba h hf23
   have hs:=And.intro hf23 hs
   refine dl 15 1 1 [1,4,5,14,15,16,26] hs mix d ?_
   clear d
   refine ZaQ false ev (ef hs) (fun hb33=>by cases hb33) (fun hb33=>?_)
   refine dg 15 1 1 [1,14,15,16,41] hs mix ?_
   refine ZaQ false ev (ef hs) (fun hb35=>by cases hb35) (fun hb35=>?_)
   refine sk [1,14,15,16] hs c ?_
   clear c
   obtain ⟨ah,h⟩:=Zab h
   refine rl [1,14,15,16] hs (fun e s=>Vl11 ml11 e s (Nat.lt_succ_self _)) ?_
   exact ⟨(a+1),([.val (.string g.1)::(g.2.cs)]),Rl11,ef hs,ef hs,hO,h⟩
 ·
  clear h;rintro e st ⟨Xk8,Rk8,rfl,rfl,hO,h⟩
  rw [Zhb] at h
  refine td hN t u b hO ?_
  refine rg [2] hs ?_
  exact rt h hs b hO
def ZjB (a0:Vl):Bool :=
 (((((((((decide (a0.kind=1))||(decide (a0.kind=2)))||(decide (a0.kind=6)))||(decide (a0.kind=7)))||(decide (a0.kind=3)))||(decide (a0.int=0)))&&((decide (a0.kind=3))||(decide (a0.scale=0))))&&((((decide (a0.kind=4))||(decide (a0.kind=5)))||(decide (a0.kind=10)))||(sEq a0.text ((⟨#[]⟩:ByteArray)))))&&(((decide (a0.kind=8))||(decide (a0.kind=10)))||(decide (((a0.list.length:Int))=0))))&&((decide (a0.kind=9))||(decide (((a0.fields.length:Int))=0)))
theorem Zv1 (w0:World) (B:List (List AV)) (Rw:List RowA) (L:List LoopA) (a0:Vl) (r:Bool) (h:ZjB a0=r) :
  ACalls Tryz.prog w0 63 [.agg (a0.cs)] ⟨B,Rw,L⟩ fun x st=>x = .val (.bool r)∧st=⟨B,Rw,L⟩:=by
 rw [ZjB] at h
 refine hd [.tmp 2] Tryz.func63 Tryz.ntmps63 fun M0 W0 hN b c a hu hO hs=>?_
 simp only [Zaq]
 refine rg [1] hs ?_
 refine rg [1,3] hs ?_
 refine rg [1,3,4] hs ?_
 refine rg [1,3,4,5] hs ?_
 refine rg [2] (al hs) ?_
 exact rT h hs a hO
theorem ZtU (w0:World) (B:List (List AV)) (Rw:List RowA) (L:List LoopA) (a0:Vl) :
  ACalls Tryz.prog w0 63 [.agg (a0.cs)] ⟨B,Rw,L⟩ fun x st=>x = .val (.bool (ZjB a0))∧st=⟨B,Rw,L⟩:=Zv1 w0 B Rw L a0 _ rfl
def Zbt (n:Nat)  : List (Nat × Vl)→Int→Option Int
 | [],b3_r7 =>
  some (0)
 | p_r7::rest,b3_r7 =>
  if I64 (b3_r7+1) then
   if decide (4096<(b3_r7+1)) then
    some (9)
   else
    if decide (8<((p_r7.1:Int))) then
     some (23)
    else
     if Za8 p_r7.2 then
      some (19)
     else
      if (decide (p_r7.2.kind<1))||(decide (10<p_r7.2.kind)) then
       some (11)
      else
       if !(ZjB p_r7.2) then
        some (3)
       else
        if decide (p_r7.2.kind=0) then
         none
        else
         if decide (p_r7.2.kind=1) then
          if !(decide ((ZdY p_r7.2)=0)) then
           some (ZdY p_r7.2)
          else
           (Zbt n rest) (b3_r7+1)
         else
          if decide (p_r7.2.kind=2) then
           if !(decide ((ZdI p_r7.2)=0)) then
            some (ZdI p_r7.2)
           else
            (Zbt n rest) (b3_r7+1)
          else
           if decide (p_r7.2.kind=3) then
            (Zg2 n p_r7.2).bind fun y42 =>
            if !(decide (y42=0)) then
             some (y42)
            else
             (Zbt n rest) (b3_r7+1)
           else
            if decide (p_r7.2.kind=4) then
             (Zg0 p_r7.2).bind fun y48 =>
             if !(decide (y48=0)) then
              some (y48)
             else
              (Zbt n rest) (b3_r7+1)
            else
             if decide (p_r7.2.kind=5) then
              if !(decide ((ZdL p_r7.2)=0)) then
               some (ZdL p_r7.2)
              else
               (Zbt n rest) (b3_r7+1)
             else
              if decide (p_r7.2.kind=6) then
               if !(decide ((ZdV p_r7.2)=0)) then
                some (ZdV p_r7.2)
               else
                (Zbt n rest) (b3_r7+1)
              else
               if decide (p_r7.2.kind=7) then
                if !(decide ((ZdW p_r7.2)=0)) then
                 some (ZdW p_r7.2)
                else
                 (Zbt n rest) (b3_r7+1)
               else
                if decide (p_r7.2.kind=8) then
                 if !(decide ((Zd0 p_r7.2)=0)) then
                  some (Zd0 p_r7.2)
                 else
                  (Zbt n rest) (b3_r7+1)
                else
                 if decide (p_r7.2.kind=9) then
                  (ZgV n p_r7.2).bind fun y74 =>
                  if !(decide (y74=0)) then
                   some (y74)
                  else
                   (Zbt n rest) (b3_r7+1)
                 else
                  if decide (p_r7.2.kind=10) then
                   (Zgi p_r7.2).bind fun y80 =>
                   if !(decide (y80=0)) then
                    some (y80)
                   else
                    (Zbt n rest) (b3_r7+1)
                  else
                   none
  else none
def Zc5 (n:Nat) (a0:Vl):Option Int :=
 if a0.depth<4611686018427387904∧a0.wide=true then
  Zbt n (Zha 1 a0) 0
 else none
theorem ZhJ (w0:World) (hT:Lib.Utf8Tabs 0 1 w0) (n:Nat) (B:List (List AV)) (Rw:List RowA) (L:List LoopA) (a0:Vl) (r:Int) (h:Zc5 n a0=some r) :
  ACalls Tryz.prog w0 22 [.agg (a0.cs)] ⟨B,Rw,L⟩ fun x st=>x = .val (.int .i64 r)∧st=⟨B,Rw,L⟩:=by
 rw [Zc5] at h
 refine hd [.cell 2 32] Tryz.func22 Tryz.ntmps22 fun M0 W0 hN a9 bd p hu hO hs=>?_
 simp only [Zaq]
 refine rg [1,2] hs ?_
 apply Zaa;intro K2 a2
 apply Zaf 2 [1,2,3]
 rw [Zae];simp +decide only [go_sem,Nat.reduceAdd,ZqH]
 (repeat' apply And.intro)<;>first | refine Zac _ (ZwQ w0 _ _ _ ) (by first | rfl | (simp +decide only [go_sem,Nat.reduceAdd,ZqH];done) | (simp +decide only [go_sem,Nat.reduceAdd,Vl.cs,Ty.cs,ZqH];done)) ?_ | exact cl
 rw [Zae];simp +decide only [go_sem,Nat.reduceAdd,ZqH]
 (repeat' apply And.intro)<;>first | refine a2 _ _ ?_ | exact cl
 clear a2
 refine rg [1,2,3,4] hs ?_
 apply Zaa;intro K4 a1
 refine rc 2 [2,3,4,10] hs ?_;intro K5 az
 refine Zbc _ (Zki w0 _ _ _ a0) (hv hs) ?_;rintro _ _ ⟨rfl,rfl⟩
 refine ne hs az ?_
 clear az
 apply Zad
 obtain ⟨a8,h⟩:=Zab h
 refine ZmJ (ZhE a0) (fun st=>st.boxes[(B.length+4)]? = some a0.cs) (fun i st=>∃ (c:Int) (Rr7:List RowA),st=⟨B++([a0.cs,[.val (.int .i64 0)],[.val .nilFunc,.clo 108 [],.clo 110 [],.clo 111 [],.clo 113 [],.clo 116 [],.clo 117 [],.clo 118 [],.clo 119 [],.clo 120 [],.clo 121 []],[.val (.int .i64 c)],a0.cs]),Rr7,L⟩∧Owns Rw Rr7 []∧Zbt n ((Zha 1 a0).drop i) c=some r) (fun ex st=>ex = .ret∧∃ (z0:List AV) (z2:List AV) (z3:List AV) (z4:List AV) (q:List RowA),st=⟨B++[z0,[.val (.int .i64 r)],z2,z3,z4],q,L⟩∧Owns Rw q []) ev ev (Zim w0 a0 a8 _) (fun x hx=>Zlk a0 x hx) (by decide) ?_ ⟨0,Rw,ef hs,hO,h⟩ (fun _ _ h => .inl h.1) ?_ ?_ ?_
 ·
  rintro i st la ⟨c,Rr7,rfl,hO,h⟩ _ _;simp +decide [St.push]
 ·
  rintro i s1 ⟨XB,XR,XL⟩ x M1 W1 l la bg hX hI a6 a4 hx f K hK
  obtain ⟨b,ba,rfl,hi⟩:=ZlS a0 i x hx
  (try simp only at hX)
  subst hX
  obtain ⟨c,Rr7,rfl,hO,h⟩:=hI
  rw [ZpR ba,Zbt] at h
  have a:=hO
  simp only [St.ext,St.push,List.append_assoc,List.append_nil]
  refine rg [2,3,4,5,12] hs ?_
  apply Zaf 1 [2,3,4,5,6]
  rw [Zae];simp +decide only [go_sem,Nat.reduceAdd]
  (repeat' apply And.intro)<;>first | refine hK _ _ (by simp [St.ext,St.push]) (fun KQ e=>?_) | exact cl
  clear hK
  dsimp only [St.ext,St.push]
  apply Zad
  obtain ⟨bf,h⟩:=Zab h
  refine rg [2,3,4,5,6] hs ?_
  apply Zaa;intro K11 av
  apply Zad
  refine rg [2,3,5,6,15] hs ?_
  refine cnd h hs (fun hs h=>?_) (fun hs h=>?_)
  ·
   have g:=hs.1
   refine rg [2] hs ?_
   apply ZaO;simp +decide only [go_sem,Nat.reduceAdd,g]
   have hgt:=Option.some.inj h;subst hgt
   refine e _ _ _ ⟨⟨B++[a0.cs,[.val (.int .i64 9)],[.val .nilFunc,.clo 108 [],.clo 110 [],.clo 111 [],.clo 113 [],.clo 116 [],.clo 117 [],.clo 118 [],.clo 119 [],.clo 120 [],.clo 121 []],[.val (.int .i64 (c+1))],a0.cs],Rr7,L⟩,[b.2.cs],by first | rfl | (simp only [List.append_assoc,List.append_nil,List.cons_append,List.nil_append];done),⟨by simp,by first | exact Nat.le_refl _ | (have:=hO.len;simp;omega),rfl⟩,rfl,⟨rfl,_,_,_,_,Rr7,ef hs,hO.sub (List.nil_sublist _)⟩,?_⟩
   exact .inr (ZaK f a hO rfl (ln hO a) ap_ ow)
  have g:=hs.1
  refine rg [2,3,6,18] hs ?_
  refine cnd h hs (fun hs h=>?_) (fun hs h=>?_)
  ·
   have j:=hs.1
   refine rg [2] hs ?_
   apply ZaO;simp +decide only [go_sem,Nat.reduceAdd,g,j]
   have hgt:=Option.some.inj h;subst hgt
   refine e _ _ _ ⟨⟨B++[a0.cs,[.val (.int .i64 23)],[.val .nilFunc,.clo 108 [],.clo 110 [],.clo 111 [],.clo 113 [],.clo 116 [],.clo 117 [],.clo 118 [],.clo 119 [],.clo 120 [],.clo 121 []],[.val (.int .i64 (c+1))],a0.cs],Rr7,L⟩,[b.2.cs],by first | rfl | (simp only [List.append_assoc,List.append_nil,List.cons_append,List.nil_append];done),⟨by simp,by first | exact Nat.le_refl _ | (have:=hO.len;simp;omega),rfl⟩,rfl,⟨rfl,_,_,_,_,Rr7,ef hs,hO.sub (List.nil_sublist _)⟩,?_⟩
   exact .inr (ZaK f a hO rfl (ln hO a) ap_ ow)
  have j:=hs.1
  refine rc 2 [2,3,6,21] hs ?_;intro K18 ab
  refine Zac _ (Zi6 w0 _ _ _ b.2) (hv hs) ?_
  refine ne hs ab ?_
  clear ab
  refine cnd h hs (fun hs h=>?_) (fun hs h=>?_)
  ·
   have k:=hs.1
   refine rg [2] hs ?_
   apply ZaO;simp +decide only [go_sem,Nat.reduceAdd,g,j,k]
   have hgt:=Option.some.inj h;subst hgt
   refine e _ _ _ ⟨⟨B++[a0.cs,[.val (.int .i64 19)],[.val .nilFunc,.clo 108 [],.clo 110 [],.clo 111 [],.clo 113 [],.clo 116 [],.clo 117 [],.clo 118 [],.clo 119 [],.clo 120 [],.clo 121 []],[.val (.int .i64 (c+1))],a0.cs],Rr7,L⟩,[b.2.cs],by first | rfl | (simp only [List.append_assoc,List.append_nil,List.cons_append,List.nil_append];done),⟨by simp,by first | exact Nat.le_refl _ | (have:=hO.len;simp;omega),rfl⟩,rfl,⟨rfl,_,_,_,_,Rr7,ef hs,hO.sub (List.nil_sublist _)⟩,?_⟩
   exact .inr (ZaK f a hO rfl (ln hO a) ap_ ow)
  have k:=hs.1
  refine rg [2,3,6,24] hs ?_
  refine cnd h hs (fun hs h=>?_) (fun hs h=>?_)
  ·
   have m:=hs.1
   refine rg [2] hs ?_
   apply ZaO;simp +decide only [go_sem,Nat.reduceAdd,g,j,k,m]
   have hgt:=Option.some.inj h;subst hgt
   refine e _ _ _ ⟨⟨B++[a0.cs,[.val (.int .i64 11)],[.val .nilFunc,.clo 108 [],.clo 110 [],.clo 111 [],.clo 113 [],.clo 116 [],.clo 117 [],.clo 118 [],.clo 119 [],.clo 120 [],.clo 121 []],[.val (.int .i64 (c+1))],a0.cs],Rr7,L⟩,[b.2.cs],by first | rfl | (simp only [List.append_assoc,List.append_nil,List.cons_append,List.nil_append];done),⟨by simp,by first | exact Nat.le_refl _ | (have:=hO.len;simp;omega),rfl⟩,rfl,⟨rfl,_,_,_,_,Rr7,ef hs,hO.sub (List.nil_sublist _)⟩,?_⟩
   exact .inr (ZaK f a hO rfl (ln hO a) ap_ ow)
  have m:=hs.1
  refine rc 2 [2,3,6,33] hs ?_;intro K24 u
  refine Zac _ (ZtU w0 _ _ _ b.2) (hv hs) ?_
  refine ne hs u ?_
  clear u
  refine cnd h hs (fun hs h=>?_) (fun hs h=>?_)
  ·
   have o:=hs.1
   refine rg [2] hs ?_
   apply ZaO;simp +decide only [go_sem,Nat.reduceAdd,g,j,k,m,o]
   have hgt:=Option.some.inj h;subst hgt
   refine e _ _ _ ⟨⟨B++[a0.cs,[.val (.int .i64 3)],[.val .nilFunc,.clo 108 [],.clo 110 [],.clo 111 [],.clo 113 [],.clo 116 [],.clo 117 [],.clo 118 [],.clo 119 [],.clo 120 [],.clo 121 []],[.val (.int .i64 (c+1))],a0.cs],Rr7,L⟩,[b.2.cs],by first | rfl | (simp only [List.append_assoc,List.append_nil,List.cons_append,List.nil_append];done),⟨by simp,by first | exact Nat.le_refl _ | (have:=hO.len;simp;omega),rfl⟩,rfl,⟨rfl,_,_,_,_,Rr7,ef hs,hO.sub (List.nil_sublist _)⟩,?_⟩
   exact .inr (ZaK f a hO rfl (ln hO a) ap_ ow)
  have o:=hs.1
  refine sk [2,3,6] hs av ?_
  clear av
  apply Zaa;intro K27 d
  rcases Bool.eq_false_or_eq_true (decide (b.2.kind=0)) with hf28 | hf28
  ·
   replace h:=Za9 h hf28
   have be:b.2.kind=0:=of_decide_eq_true hf28
   cases h
  ·
   replace h:=Zba h hf28
   rcases Bool.eq_false_or_eq_true (decide (b.2.kind=1)) with hf30 | hf30
   ·
    replace h:=Za9 h hf30
    have ap:b.2.kind=1:=of_decide_eq_true hf30
    have hs:=And.intro hf28 hs
    have hs:=And.intro hf30 hs
    have hs:=And.intro ap hs
    refine dk 7 2 1 [2,7] hs mix ?_
    refine Zac _ (ZpH w0 _ _ _ b.2) (hv hs) ?_
    refine dn hs d ?_
    clear d
    refine rg [2,7,44] hs ?_
    refine cnd h hs (fun hs h=>?_) (fun hs h=>?_)
    ·
     have ae:=hs.1
     refine rg [2] hs ?_
     apply ZaO;simp +decide only [go_sem,Nat.reduceAdd,g,j,k,m,o,hf28,hf30,ap,ae]
     have hgt:=Option.some.inj h;subst hgt
     refine e _ _ _ ⟨⟨B++[a0.cs,[.val (.int .i64 (ZdY b.2))],[.val .nilFunc,.clo 108 [],.clo 110 [],.clo 111 [],.clo 113 [],.clo 116 [],.clo 117 [],.clo 118 [],.clo 119 [],.clo 120 [],.clo 121 []],[.val (.int .i64 (c+1))],a0.cs],Rr7,L⟩,[b.2.cs],by first | rfl | (simp only [List.append_assoc,List.append_nil,List.cons_append,List.nil_append];done),⟨by simp,by first | exact Nat.le_refl _ | (have:=hO.len;simp;omega),rfl⟩,rfl,⟨rfl,_,_,_,_,Rr7,ef hs,hO.sub (List.nil_sublist _)⟩,?_⟩
     exact .inr (ZaK f a hO rfl (ln hO a) ap_ ow)
    have ae:=hs.1
    refine ZcR (Zdg [] _) ?_ (ZaW _ _)
    apply Za4;simp +decide only [go_sem,Nat.reduceAdd]
    (repeat' apply And.intro)<;>first | refine e _ _ _ ⟨⟨B++[a0.cs,[.val (.int .i64 0)],[.val .nilFunc,.clo 108 [],.clo 110 [],.clo 111 [],.clo 113 [],.clo 116 [],.clo 117 [],.clo 118 [],.clo 119 [],.clo 120 [],.clo 121 []],[.val (.int .i64 (c+1))],a0.cs],Rr7,L⟩,[b.2.cs],by first | rfl | (simp only [List.append_assoc,List.append_nil,List.cons_append,List.nil_append];done),⟨by simp,by first | exact Nat.le_refl _ | (have:=hO.len;simp;omega),rfl⟩,rfl,⟨(c+1),Rr7,ef hs,hO,h⟩,?_⟩ | exact cl
    exact .inr (ZaK f a hO rfl (ln hO a) ap_ ow)
   ·
    replace h:=Zba h hf30
    rcases Bool.eq_false_or_eq_true (decide (b.2.kind=2)) with hf35 | hf35
    ·
     replace h:=Za9 h hf35
     have ag:b.2.kind=2:=of_decide_eq_true hf35
     have hs:=And.intro hf28 hs
     have hs:=And.intro hf30 hs
     have hs:=And.intro hf35 hs
     have hs:=And.intro ag hs
     refine dk 7 2 1 [2,7] hs mix ?_
     refine Zac _ (Zpk w0 _ _ _ b.2) (hv hs) ?_
     refine dn hs d ?_
     clear d
     refine rg [2,7,44] hs ?_
     refine cnd h hs (fun hs h=>?_) (fun hs h=>?_)
     ·
      have am:=hs.1
      refine rg [2] hs ?_
      apply ZaO;simp +decide only [go_sem,Nat.reduceAdd,g,j,k,m,o,hf28,hf30,hf35,ag,am]
      have hgt:=Option.some.inj h;subst hgt
      refine e _ _ _ ⟨⟨B++[a0.cs,[.val (.int .i64 (ZdI b.2))],[.val .nilFunc,.clo 108 [],.clo 110 [],.clo 111 [],.clo 113 [],.clo 116 [],.clo 117 [],.clo 118 [],.clo 119 [],.clo 120 [],.clo 121 []],[.val (.int .i64 (c+1))],a0.cs],Rr7,L⟩,[b.2.cs],by first | rfl | (simp only [List.append_assoc,List.append_nil,List.cons_append,List.nil_append];done),⟨by simp,by first | exact Nat.le_refl _ | (have:=hO.len;simp;omega),rfl⟩,rfl,⟨rfl,_,_,_,_,Rr7,ef hs,hO.sub (List.nil_sublist _)⟩,?_⟩
      exact .inr (ZaK f a hO rfl (ln hO a) ap_ ow)
     have am:=hs.1
     refine ZcR (Zdg [] _) ?_ (ZaW _ _)
     apply Za4;simp +decide only [go_sem,Nat.reduceAdd]
     (repeat' apply And.intro)<;>first | refine e _ _ _ ⟨⟨B++[a0.cs,[.val (.int .i64 0)],[.val .nilFunc,.clo 108 [],.clo 110 [],.clo 111 [],.clo 113 [],.clo 116 [],.clo 117 [],.clo 118 [],.clo 119 [],.clo 120 [],.clo 121 []],[.val (.int .i64 (c+1))],a0.cs],Rr7,L⟩,[b.2.cs],by first | rfl | (simp only [List.append_assoc,List.append_nil,List.cons_append,List.nil_append];done),⟨by simp,by first | exact Nat.le_refl _ | (have:=hO.len;simp;omega),rfl⟩,rfl,⟨(c+1),Rr7,ef hs,hO,h⟩,?_⟩ | exact cl
     exact .inr (ZaK f a hO rfl (ln hO a) ap_ ow)
    ·
     replace h:=Zba h hf35
     rcases Bool.eq_false_or_eq_true (decide (b.2.kind=3)) with hf40 | hf40
     ·
      replace h:=Za9 h hf40
      have aq:b.2.kind=3:=of_decide_eq_true hf40
      obtain ⟨a7,ay,h⟩:=bind_some h
      have hs:=And.intro hf28 hs
      have hs:=And.intro hf30 hs
      have hs:=And.intro hf35 hs
      have hs:=And.intro hf40 hs
      have hs:=And.intro aq hs
      refine dk 7 2 1 [2,7] hs mix ?_
      refine Zac _ (Zrv w0 n _ _ _ b.2 _ ay) (hv hs) ?_
      refine dn hs d ?_
      clear d
      refine rg [2,7,44] hs ?_
      refine cnd h hs (fun hs h=>?_) (fun hs h=>?_)
      ·
       have ao:=hs.1
       refine rg [2] hs ?_
       apply ZaO;simp +decide only [go_sem,Nat.reduceAdd,g,j,k,m,o,hf28,hf30,hf35,hf40,aq,ao]
       have hgt:=Option.some.inj h;subst hgt
       refine e _ _ _ ⟨⟨B++[a0.cs,[.val (.int .i64 a7)],[.val .nilFunc,.clo 108 [],.clo 110 [],.clo 111 [],.clo 113 [],.clo 116 [],.clo 117 [],.clo 118 [],.clo 119 [],.clo 120 [],.clo 121 []],[.val (.int .i64 (c+1))],a0.cs],Rr7,L⟩,[b.2.cs],by first | rfl | (simp only [List.append_assoc,List.append_nil,List.cons_append,List.nil_append];done),⟨by simp,by first | exact Nat.le_refl _ | (have:=hO.len;simp;omega),rfl⟩,rfl,⟨rfl,_,_,_,_,Rr7,ef hs,hO.sub (List.nil_sublist _)⟩,?_⟩
       exact .inr (ZaK f a hO rfl (ln hO a) ap_ ow)
      have ao:=hs.1
      refine ZcR (Zdg [] _) ?_ (ZaW _ _)
      apply Za4;simp +decide only [go_sem,Nat.reduceAdd]
      (repeat' apply And.intro)<;>first | refine e _ _ _ ⟨⟨B++[a0.cs,[.val (.int .i64 0)],[.val .nilFunc,.clo 108 [],.clo 110 [],.clo 111 [],.clo 113 [],.clo 116 [],.clo 117 [],.clo 118 [],.clo 119 [],.clo 120 [],.clo 121 []],[.val (.int .i64 (c+1))],a0.cs],Rr7,L⟩,[b.2.cs],by first | rfl | (simp only [List.append_assoc,List.append_nil,List.cons_append,List.nil_append];done),⟨by simp,by first | exact Nat.le_refl _ | (have:=hO.len;simp;omega),rfl⟩,rfl,⟨(c+1),Rr7,ef hs,hO,h⟩,?_⟩ | exact cl
      exact .inr (ZaK f a hO rfl (ln hO a) ap_ ow)
     ·
      replace h:=Zba h hf40
      rcases Bool.eq_false_or_eq_true (decide (b.2.kind=4)) with hf46 | hf46
      ·
       replace h:=Za9 h hf46
       have aa:b.2.kind=4:=of_decide_eq_true hf46
       obtain ⟨bc,ax,h⟩:=bind_some h
       have hs:=And.intro hf28 hs
       have hs:=And.intro hf30 hs
       have hs:=And.intro hf35 hs
       have hs:=And.intro hf40 hs
       have hs:=And.intro hf46 hs
       have hs:=And.intro aa hs
       refine dk 7 2 1 [2,7] hs mix ?_
       refine Zac _ (Zq8 w0 hT _ _ _ b.2 _ ax) (hv hs) ?_
       refine dn hs d ?_
       clear d
       refine rg [2,7,44] hs ?_
       refine cnd h hs (fun hs h=>?_) (fun hs h=>?_)
       ·
        have z:=hs.1
        refine rg [2] hs ?_
        apply ZaO;simp +decide only [go_sem,Nat.reduceAdd,g,j,k,m,o,hf28,hf30,hf35,hf40,hf46,aa,z]
        have hgt:=Option.some.inj h;subst hgt
        refine e _ _ _ ⟨⟨B++[a0.cs,[.val (.int .i64 bc)],[.val .nilFunc,.clo 108 [],.clo 110 [],.clo 111 [],.clo 113 [],.clo 116 [],.clo 117 [],.clo 118 [],.clo 119 [],.clo 120 [],.clo 121 []],[.val (.int .i64 (c+1))],a0.cs],Rr7,L⟩,[b.2.cs],by first | rfl | (simp only [List.append_assoc,List.append_nil,List.cons_append,List.nil_append];done),⟨by simp,by first | exact Nat.le_refl _ | (have:=hO.len;simp;omega),rfl⟩,rfl,⟨rfl,_,_,_,_,Rr7,ef hs,hO.sub (List.nil_sublist _)⟩,?_⟩
        exact .inr (ZaK f a hO rfl (ln hO a) ap_ ow)
       have z:=hs.1
       refine ZcR (Zdg [] _) ?_ (ZaW _ _)
       apply Za4;simp +decide only [go_sem,Nat.reduceAdd]
       (repeat' apply And.intro)<;>first | refine e _ _ _ ⟨⟨B++[a0.cs,[.val (.int .i64 0)],[.val .nilFunc,.clo 108 [],.clo 110 [],.clo 111 [],.clo 113 [],.clo 116 [],.clo 117 [],.clo 118 [],.clo 119 [],.clo 120 [],.clo 121 []],[.val (.int .i64 (c+1))],a0.cs],Rr7,L⟩,[b.2.cs],by first | rfl | (simp only [List.append_assoc,List.append_nil,List.cons_append,List.nil_append];done),⟨by simp,by first | exact Nat.le_refl _ | (have:=hO.len;simp;omega),rfl⟩,rfl,⟨(c+1),Rr7,ef hs,hO,h⟩,?_⟩ | exact cl
       exact .inr (ZaK f a hO rfl (ln hO a) ap_ ow)
      ·
       replace h:=Zba h hf46
       rcases Bool.eq_false_or_eq_true (decide (b.2.kind=5)) with hf52 | hf52
       ·
        replace h:=Za9 h hf52
        have ad:b.2.kind=5:=of_decide_eq_true hf52
        have hs:=And.intro hf28 hs
        have hs:=And.intro hf30 hs
        have hs:=And.intro hf35 hs
        have hs:=And.intro hf40 hs
        have hs:=And.intro hf46 hs
        have hs:=And.intro hf52 hs
        have hs:=And.intro ad hs
        refine dk 7 2 1 [2,7] hs mix ?_
        refine Zac _ (Zp0 w0 _ _ _ b.2) (hv hs) ?_
        refine dn hs d ?_
        clear d
        refine rg [2,7,44] hs ?_
        refine cnd h hs (fun hs h=>?_) (fun hs h=>?_)
        ·
         have af:=hs.1
         refine rg [2] hs ?_
         apply ZaO;simp +decide only [go_sem,Nat.reduceAdd,g,j,k,m,o,hf28,hf30,hf35,hf40,hf46,hf52,ad,af]
         have hgt:=Option.some.inj h;subst hgt
         refine e _ _ _ ⟨⟨B++[a0.cs,[.val (.int .i64 (ZdL b.2))],[.val .nilFunc,.clo 108 [],.clo 110 [],.clo 111 [],.clo 113 [],.clo 116 [],.clo 117 [],.clo 118 [],.clo 119 [],.clo 120 [],.clo 121 []],[.val (.int .i64 (c+1))],a0.cs],Rr7,L⟩,[b.2.cs],by first | rfl | (simp only [List.append_assoc,List.append_nil,List.cons_append,List.nil_append];done),⟨by simp,by first | exact Nat.le_refl _ | (have:=hO.len;simp;omega),rfl⟩,rfl,⟨rfl,_,_,_,_,Rr7,ef hs,hO.sub (List.nil_sublist _)⟩,?_⟩
         exact .inr (ZaK f a hO rfl (ln hO a) ap_ ow)
        have af:=hs.1
        refine ZcR (Zdg [] _) ?_ (ZaW _ _)
        apply Za4;simp +decide only [go_sem,Nat.reduceAdd]
        (repeat' apply And.intro)<;>first | refine e _ _ _ ⟨⟨B++[a0.cs,[.val (.int .i64 0)],[.val .nilFunc,.clo 108 [],.clo 110 [],.clo 111 [],.clo 113 [],.clo 116 [],.clo 117 [],.clo 118 [],.clo 119 [],.clo 120 [],.clo 121 []],[.val (.int .i64 (c+1))],a0.cs],Rr7,L⟩,[b.2.cs],by first | rfl | (simp only [List.append_assoc,List.append_nil,List.cons_append,List.nil_append];done),⟨by simp,by first | exact Nat.le_refl _ | (have:=hO.len;simp;omega),rfl⟩,rfl,⟨(c+1),Rr7,ef hs,hO,h⟩,?_⟩ | exact cl
        exact .inr (ZaK f a hO rfl (ln hO a) ap_ ow)
       ·
        replace h:=Zba h hf52
        rcases Bool.eq_false_or_eq_true (decide (b.2.kind=6)) with hf57 | hf57
        ·
         replace h:=Za9 h hf57
         have ah:b.2.kind=6:=of_decide_eq_true hf57
         have hs:=And.intro hf28 hs
         have hs:=And.intro hf30 hs
         have hs:=And.intro hf35 hs
         have hs:=And.intro hf40 hs
         have hs:=And.intro hf46 hs
         have hs:=And.intro hf52 hs
         have hs:=And.intro hf57 hs
         have hs:=And.intro ah hs
         refine dk 7 2 1 [2,7] hs mix ?_
         refine Zac _ (Zpx w0 _ _ _ b.2) (hv hs) ?_
         refine dn hs d ?_
         clear d
         refine rg [2,7,44] hs ?_
         refine cnd h hs (fun hs h=>?_) (fun hs h=>?_)
         ·
          have ar:=hs.1
          refine rg [2] hs ?_
          apply ZaO;simp +decide only [go_sem,Nat.reduceAdd,g,j,k,m,o,hf28,hf30,hf35,hf40,hf46,hf52,hf57,ah,ar]
          have hgt:=Option.some.inj h;subst hgt
          refine e _ _ _ ⟨⟨B++[a0.cs,[.val (.int .i64 (ZdV b.2))],[.val .nilFunc,.clo 108 [],.clo 110 [],.clo 111 [],.clo 113 [],.clo 116 [],.clo 117 [],.clo 118 [],.clo 119 [],.clo 120 [],.clo 121 []],[.val (.int .i64 (c+1))],a0.cs],Rr7,L⟩,[b.2.cs],by first | rfl | (simp only [List.append_assoc,List.append_nil,List.cons_append,List.nil_append];done),⟨by simp,by first | exact Nat.le_refl _ | (have:=hO.len;simp;omega),rfl⟩,rfl,⟨rfl,_,_,_,_,Rr7,ef hs,hO.sub (List.nil_sublist _)⟩,?_⟩
          exact .inr (ZaK f a hO rfl (ln hO a) ap_ ow)
         have ar:=hs.1
         refine ZcR (Zdg [] _) ?_ (ZaW _ _)
         apply Za4;simp +decide only [go_sem,Nat.reduceAdd]
         (repeat' apply And.intro)<;>first | refine e _ _ _ ⟨⟨B++[a0.cs,[.val (.int .i64 0)],[.val .nilFunc,.clo 108 [],.clo 110 [],.clo 111 [],.clo 113 [],.clo 116 [],.clo 117 [],.clo 118 [],.clo 119 [],.clo 120 [],.clo 121 []],[.val (.int .i64 (c+1))],a0.cs],Rr7,L⟩,[b.2.cs],by first | rfl | (simp only [List.append_assoc,List.append_nil,List.cons_append,List.nil_append];done),⟨by simp,by first | exact Nat.le_refl _ | (have:=hO.len;simp;omega),rfl⟩,rfl,⟨(c+1),Rr7,ef hs,hO,h⟩,?_⟩ | exact cl
         exact .inr (ZaK f a hO rfl (ln hO a) ap_ ow)
        ·
         replace h:=Zba h hf57
         rcases Bool.eq_false_or_eq_true (decide (b.2.kind=7)) with hf62 | hf62
         ·
          replace h:=Za9 h hf62
          have au:b.2.kind=7:=of_decide_eq_true hf62
          have hs:=And.intro hf28 hs
          have hs:=And.intro hf30 hs
          have hs:=And.intro hf35 hs
          have hs:=And.intro hf40 hs
          have hs:=And.intro hf46 hs
          have hs:=And.intro hf52 hs
          have hs:=And.intro hf57 hs
          have hs:=And.intro hf62 hs
          have hs:=And.intro au hs
          refine dk 7 2 1 [2,7] hs mix ?_
          refine Zac _ (Zph w0 _ _ _ b.2) (hv hs) ?_
          refine dn hs d ?_
          clear d
          refine rg [2,7,44] hs ?_
          refine cnd h hs (fun hs h=>?_) (fun hs h=>?_)
          ·
           have aj:=hs.1
           refine rg [2] hs ?_
           apply ZaO;simp +decide only [go_sem,Nat.reduceAdd,g,j,k,m,o,hf28,hf30,hf35,hf40,hf46,hf52,hf57,hf62,au,aj]
           have hgt:=Option.some.inj h;subst hgt
           refine e _ _ _ ⟨⟨B++[a0.cs,[.val (.int .i64 (ZdW b.2))],[.val .nilFunc,.clo 108 [],.clo 110 [],.clo 111 [],.clo 113 [],.clo 116 [],.clo 117 [],.clo 118 [],.clo 119 [],.clo 120 [],.clo 121 []],[.val (.int .i64 (c+1))],a0.cs],Rr7,L⟩,[b.2.cs],by first | rfl | (simp only [List.append_assoc,List.append_nil,List.cons_append,List.nil_append];done),⟨by simp,by first | exact Nat.le_refl _ | (have:=hO.len;simp;omega),rfl⟩,rfl,⟨rfl,_,_,_,_,Rr7,ef hs,hO.sub (List.nil_sublist _)⟩,?_⟩
           exact .inr (ZaK f a hO rfl (ln hO a) ap_ ow)
          have aj:=hs.1
          refine ZcR (Zdg [] _) ?_ (ZaW _ _)
          apply Za4;simp +decide only [go_sem,Nat.reduceAdd]
          (repeat' apply And.intro)<;>first | refine e _ _ _ ⟨⟨B++[a0.cs,[.val (.int .i64 0)],[.val .nilFunc,.clo 108 [],.clo 110 [],.clo 111 [],.clo 113 [],.clo 116 [],.clo 117 [],.clo 118 [],.clo 119 [],.clo 120 [],.clo 121 []],[.val (.int .i64 (c+1))],a0.cs],Rr7,L⟩,[b.2.cs],by first | rfl | (simp only [List.append_assoc,List.append_nil,List.cons_append,List.nil_append];done),⟨by simp,by first | exact Nat.le_refl _ | (have:=hO.len;simp;omega),rfl⟩,rfl,⟨(c+1),Rr7,ef hs,hO,h⟩,?_⟩ | exact cl
          exact .inr (ZaK f a hO rfl (ln hO a) ap_ ow)
         ·
          replace h:=Zba h hf62
          rcases Bool.eq_false_or_eq_true (decide (b.2.kind=8)) with hf67 | hf67
          ·
           replace h:=Za9 h hf67
           have ak:b.2.kind=8:=of_decide_eq_true hf67
           have hs:=And.intro hf28 hs
           have hs:=And.intro hf30 hs
           have hs:=And.intro hf35 hs
           have hs:=And.intro hf40 hs
           have hs:=And.intro hf46 hs
           have hs:=And.intro hf52 hs
           have hs:=And.intro hf57 hs
           have hs:=And.intro hf62 hs
           have hs:=And.intro hf67 hs
           have hs:=And.intro ak hs
           refine dk 7 2 1 [2,7] hs mix ?_
           refine Zac _ (Zpp w0 _ _ _ b.2) (hv hs) ?_
           refine dn hs d ?_
           clear d
           refine rg [2,7,44] hs ?_
           refine cnd h hs (fun hs h=>?_) (fun hs h=>?_)
           ·
            have w:=hs.1
            refine rg [2] hs ?_
            apply ZaO;simp +decide only [go_sem,Nat.reduceAdd,g,j,k,m,o,hf28,hf30,hf35,hf40,hf46,hf52,hf57,hf62,hf67,ak,w]
            have hgt:=Option.some.inj h;subst hgt
            refine e _ _ _ ⟨⟨B++[a0.cs,[.val (.int .i64 (Zd0 b.2))],[.val .nilFunc,.clo 108 [],.clo 110 [],.clo 111 [],.clo 113 [],.clo 116 [],.clo 117 [],.clo 118 [],.clo 119 [],.clo 120 [],.clo 121 []],[.val (.int .i64 (c+1))],a0.cs],Rr7,L⟩,[b.2.cs],by first | rfl | (simp only [List.append_assoc,List.append_nil,List.cons_append,List.nil_append];done),⟨by simp,by first | exact Nat.le_refl _ | (have:=hO.len;simp;omega),rfl⟩,rfl,⟨rfl,_,_,_,_,Rr7,ef hs,hO.sub (List.nil_sublist _)⟩,?_⟩
            exact .inr (ZaK f a hO rfl (ln hO a) ap_ ow)
           have w:=hs.1
           refine ZcR (Zdg [] _) ?_ (ZaW _ _)
           apply Za4;simp +decide only [go_sem,Nat.reduceAdd]
           (repeat' apply And.intro)<;>first | refine e _ _ _ ⟨⟨B++[a0.cs,[.val (.int .i64 0)],[.val .nilFunc,.clo 108 [],.clo 110 [],.clo 111 [],.clo 113 [],.clo 116 [],.clo 117 [],.clo 118 [],.clo 119 [],.clo 120 [],.clo 121 []],[.val (.int .i64 (c+1))],a0.cs],Rr7,L⟩,[b.2.cs],by first | rfl | (simp only [List.append_assoc,List.append_nil,List.cons_append,List.nil_append];done),⟨by simp,by first | exact Nat.le_refl _ | (have:=hO.len;simp;omega),rfl⟩,rfl,⟨(c+1),Rr7,ef hs,hO,h⟩,?_⟩ | exact cl
           exact .inr (ZaK f a hO rfl (ln hO a) ap_ ow)
          ·
           replace h:=Zba h hf67
           rcases Bool.eq_false_or_eq_true (decide (b.2.kind=9)) with hf72 | hf72
           ·
            replace h:=Za9 h hf72
            have v:b.2.kind=9:=of_decide_eq_true hf72
            obtain ⟨a5,aw,h⟩:=bind_some h
            have hs:=And.intro hf28 hs
            have hs:=And.intro hf30 hs
            have hs:=And.intro hf35 hs
            have hs:=And.intro hf40 hs
            have hs:=And.intro hf46 hs
            have hs:=And.intro hf52 hs
            have hs:=And.intro hf57 hs
            have hs:=And.intro hf62 hs
            have hs:=And.intro hf67 hs
            have hs:=And.intro hf72 hs
            have hs:=And.intro v hs
            refine dk 7 2 1 [2,7] hs mix ?_
            refine Zac _ (Zra w0 n _ _ _ b.2 _ aw) (hv hs) ?_
            refine dn hs d ?_
            clear d
            refine rg [2,7,44] hs ?_
            refine cnd h hs (fun hs h=>?_) (fun hs h=>?_)
            ·
             have t:=hs.1
             refine rg [2] hs ?_
             apply ZaO;simp +decide only [go_sem,Nat.reduceAdd,g,j,k,m,o,hf28,hf30,hf35,hf40,hf46,hf52,hf57,hf62,hf67,hf72,v,t]
             have hgt:=Option.some.inj h;subst hgt
             refine e _ _ _ ⟨⟨B++[a0.cs,[.val (.int .i64 a5)],[.val .nilFunc,.clo 108 [],.clo 110 [],.clo 111 [],.clo 113 [],.clo 116 [],.clo 117 [],.clo 118 [],.clo 119 [],.clo 120 [],.clo 121 []],[.val (.int .i64 (c+1))],a0.cs],Rr7,L⟩,[b.2.cs],by first | rfl | (simp only [List.append_assoc,List.append_nil,List.cons_append,List.nil_append];done),⟨by simp,by first | exact Nat.le_refl _ | (have:=hO.len;simp;omega),rfl⟩,rfl,⟨rfl,_,_,_,_,Rr7,ef hs,hO.sub (List.nil_sublist _)⟩,?_⟩
             exact .inr (ZaK f a hO rfl (ln hO a) ap_ ow)
            have t:=hs.1
            refine ZcR (Zdg [] _) ?_ (ZaW _ _)
            apply Za4;simp +decide only [go_sem,Nat.reduceAdd]
            (repeat' apply And.intro)<;>first | refine e _ _ _ ⟨⟨B++[a0.cs,[.val (.int .i64 0)],[.val .nilFunc,.clo 108 [],.clo 110 [],.clo 111 [],.clo 113 [],.clo 116 [],.clo 117 [],.clo 118 [],.clo 119 [],.clo 120 [],.clo 121 []],[.val (.int .i64 (c+1))],a0.cs],Rr7,L⟩,[b.2.cs],by first | rfl | (simp only [List.append_assoc,List.append_nil,List.cons_append,List.nil_append];done),⟨by simp,by first | exact Nat.le_refl _ | (have:=hO.len;simp;omega),rfl⟩,rfl,⟨(c+1),Rr7,ef hs,hO,h⟩,?_⟩ | exact cl
            exact .inr (ZaK f a hO rfl (ln hO a) ap_ ow)
           ·
            replace h:=Zba h hf72
            rcases Bool.eq_false_or_eq_true (decide (b.2.kind=10)) with hf78 | hf78
            ·
             replace h:=Za9 h hf78
             have ai:b.2.kind=10:=of_decide_eq_true hf78
             obtain ⟨bb,a3,h⟩:=bind_some h
             have hs:=And.intro hf28 hs
             have hs:=And.intro hf30 hs
             have hs:=And.intro hf35 hs
             have hs:=And.intro hf40 hs
             have hs:=And.intro hf46 hs
             have hs:=And.intro hf52 hs
             have hs:=And.intro hf57 hs
             have hs:=And.intro hf62 hs
             have hs:=And.intro hf67 hs
             have hs:=And.intro hf72 hs
             have hs:=And.intro hf78 hs
             have hs:=And.intro ai hs
             refine dk 7 2 1 [2,7] hs mix ?_
             refine Zac _ (ZpG w0 _ _ _ b.2 _ a3) (hv hs) ?_
             refine dn hs d ?_
             clear d
             refine rg [2,7,44] hs ?_
             refine cnd h hs (fun hs h=>?_) (fun hs h=>?_)
             ·
              have y:=hs.1
              refine rg [2] hs ?_
              apply ZaO;simp +decide only [go_sem,Nat.reduceAdd,g,j,k,m,o,hf28,hf30,hf35,hf40,hf46,hf52,hf57,hf62,hf67,hf72,hf78,ai,y]
              have hgt:=Option.some.inj h;subst hgt
              refine e _ _ _ ⟨⟨B++[a0.cs,[.val (.int .i64 bb)],[.val .nilFunc,.clo 108 [],.clo 110 [],.clo 111 [],.clo 113 [],.clo 116 [],.clo 117 [],.clo 118 [],.clo 119 [],.clo 120 [],.clo 121 []],[.val (.int .i64 (c+1))],a0.cs],Rr7,L⟩,[b.2.cs],by first | rfl | (simp only [List.append_assoc,List.append_nil,List.cons_append,List.nil_append];done),⟨by simp,by first | exact Nat.le_refl _ | (have:=hO.len;simp;omega),rfl⟩,rfl,⟨rfl,_,_,_,_,Rr7,ef hs,hO.sub (List.nil_sublist _)⟩,?_⟩
              exact .inr (ZaK f a hO rfl (ln hO a) ap_ ow)
             have y:=hs.1
             refine ZcR (Zdg [] _) ?_ (ZaW _ _)
             apply Za4;simp +decide only [go_sem,Nat.reduceAdd]
             (repeat' apply And.intro)<;>first | refine e _ _ _ ⟨⟨B++[a0.cs,[.val (.int .i64 0)],[.val .nilFunc,.clo 108 [],.clo 110 [],.clo 111 [],.clo 113 [],.clo 116 [],.clo 117 [],.clo 118 [],.clo 119 [],.clo 120 [],.clo 121 []],[.val (.int .i64 (c+1))],a0.cs],Rr7,L⟩,[b.2.cs],by first | rfl | (simp only [List.append_assoc,List.append_nil,List.cons_append,List.nil_append];done),⟨by simp,by first | exact Nat.le_refl _ | (have:=hO.len;simp;omega),rfl⟩,rfl,⟨(c+1),Rr7,ef hs,hO,h⟩,?_⟩ | exact cl
             exact .inr (ZaK f a hO rfl (ln hO a) ap_ ow)
            ·
             replace h:=Zba h hf78
             cases h
 ·
  rintro s la ⟨XB,XR,XL⟩ hXR ⟨c,Rr7,rfl,hO,h⟩ _ _
  simp only at hXR
  subst hXR
  rw [List.drop_eq_nil_of_le (by rw [Zix];exact Nat.le_refl _),Zbt] at h
  simp only [St.ext,St.push,List.append_assoc,List.append_nil]
  (repeat' apply And.intro)<;>first | refine a1 _ _ ?_ | exact cl
  clear a1
  refine Znp (bs:=[a0.cs,[.val (.int .i64 0)],[.val .nilFunc,.clo 108 [],.clo 110 [],.clo 111 [],.clo 113 [],.clo 116 [],.clo 117 [],.clo 118 [],.clo 119 [],.clo 120 [],.clo 121 []],[.val (.int .i64 c)],a0.cs]) hN a9 bd rfl p hO ow ow ?_
  refine rg [2] hs ?_
  exact rt h hs p hO
 ·
  rintro ex s la ⟨XB,XR,XL⟩ hXR ⟨rfl,z0,z2,z3,z4,q,rfl,hO⟩ _ _
  simp only at hXR
  subst hXR
  simp only [St.ext,St.push,List.append_assoc,List.append_nil]
  simp +decide only [go_sem,Nat.reduceAdd]
  (repeat' with_reducible apply And.intro)<;>first | refine ZC2 p rfl hO.pre ev ⟨?_,rfl⟩ | (intros;omega) | (intros;simp_all;done)
  first | rfl | (simp +decide only [go_sem,Nat.reduceAdd];done)
theorem ZkI {j:Nat}:((j+1:Nat):Int)-1=(j:Int):=by omega
theorem ZpK {j:Nat}:decide (0<((j+1:Nat):Int))=true:=decide_eq_true (by omega)
theorem Zly {k:Nat} (h:k<1000000000000):I64 (k:Int):=by unfold I64;omega
def ZrJ:Option ByteArray→List ByteArray→Int
 | _,[]=>0
 | none,x::r=>if Zei x=true then ZrJ (some x) r else 12
 | some p,x::r=>if Zei x=true then (if sEq x p=true then 7 else if sLt x p=true then 24 else ZrJ (some x) r) else 12
def ZsH (l:List (ByteArray × Vl)):Nat→Option ByteArray
 | 0=>none
 | i+1=>(l[i]?).map Prod.fst
theorem ZuU (n:Nat) (l:List (ByteArray × Vl)) (hl:(l).length≤1000000000000) (hz:∀ p∈l,p.1.size≤maxLen):∀ (k m i:Nat),i+k=(l).length→k<m→Zej n l m i=some (ZrJ (ZsH (l) i) (((l).map Prod.fst).drop i))
 | k,0,i,_,h=>absurd h (Nat.not_lt_zero _)
 | 0,m+1,i,hi,_=>by
  rw [Zej,Zal,decide_eq_false (by omega)]
  simp only [Bool.false_eq_true,if_false,ZlV]
  rw [List.drop_eq_nil_of_le (by rw [List.length_map];omega)]
  cases ZsH (l) i<;>rfl
 | k+1,m+1,i,hi,hm=>by
  have a:i<(l).length:=by omega
  have ih:=ZuU n l hl hz k m (i+1) (by omega) (by omega)
  rw [Zej,Zal,decide_eq_true a]
  simp only [if_true,Zam a,Option.bind_some]
  rw [if_pos (hz _ (List.getElem_mem a)),List.drop_eq_getElem_cons (by rw [List.length_map];omega),List.getElem_map]
  have hp:ZsH (l) (i+1)=some (l)[i].1:=by simp only [ZsH,List.getElem?_eq_getElem a];rfl
  rw [hp] at ih
  cases i with
  | zero =>
   simp only [ZsH,ZrJ]
   by_cases hb:Zei (l)[0].1=true
   ·
    rw [if_pos hb,hb]
    simp only [Bool.not_true,Bool.false_eq_true,if_false]
    rw [if_neg (by decide),if_pos (Zaj (by omega))]
    exact ih
   ·
    rw [if_neg hb,Bool.eq_false_iff.2 hb];rfl
  | succ j =>
   have hj:j<(l).length:=by omega
   have hq:ZsH (l) (j+1)=some (l)[j].1:=by simp only [ZsH,List.getElem?_eq_getElem hj];rfl
   rw [hq]
   simp only [ZrJ]
   by_cases hb:Zei (l)[j+1].1=true
   ·
    rw [if_pos hb,hb]
    simp only [Bool.not_true,Bool.false_eq_true,if_false,ZpK,if_true,ZkI]
    have hI:I64 (j:Int):=Zly (by omega)
    simp only [if_pos hI,Zam hj,Option.bind_some]
    by_cases h1:sEq (l)[j+1].1 (l)[j].1=true
    ·
     rw [if_pos h1,if_pos h1]
    ·
     rw [if_neg h1,if_neg h1]
     by_cases h2:sLt (l)[j+1].1 (l)[j].1=true
     ·
      rw [if_pos h2,if_pos h2]
     ·
      rw [if_neg h2,if_neg h2,if_pos (Zaj (by omega))]
      exact ih
   ·
    rw [if_neg hb,Bool.eq_false_iff.2 hb];rfl
theorem ZvH (n:Nat) (v:Vl) (hl:(v.fields).length≤1000000000000) (hz:∀ p∈v.fields,p.1.size≤maxLen):∀ (k m i:Nat),i+k=(v.fields).length→k<m→ZcH n v m i=some (ZrJ (ZsH (v.fields) i) (((v.fields).map Prod.fst).drop i))
 | k,0,i,_,h=>absurd h (Nat.not_lt_zero _)
 | 0,m+1,i,hi,_=>by
  rw [ZcH,Zal,decide_eq_false (by omega)]
  simp only [Bool.false_eq_true,if_false,Zhb]
  rw [List.drop_eq_nil_of_le (by rw [List.length_map];omega)]
  cases ZsH (v.fields) i<;>rfl
 | k+1,m+1,i,hi,hm=>by
  have a:i<(v.fields).length:=by omega
  have ih:=ZvH n v hl hz k m (i+1) (by omega) (by omega)
  rw [ZcH,Zal,decide_eq_true a]
  simp only [if_true,Zam a,Option.bind_some]
  rw [if_pos (hz _ (List.getElem_mem a)),List.drop_eq_getElem_cons (by rw [List.length_map];omega),List.getElem_map]
  have hp:ZsH (v.fields) (i+1)=some (v.fields)[i].1:=by simp only [ZsH,List.getElem?_eq_getElem a];rfl
  rw [hp] at ih
  cases i with
  | zero =>
   simp only [ZsH,ZrJ]
   by_cases hb:Zei (v.fields)[0].1=true
   ·
    rw [if_pos hb,hb]
    simp only [Bool.not_true,Bool.false_eq_true,if_false]
    rw [if_neg (by decide),if_pos (Zaj (by omega))]
    exact ih
   ·
    rw [if_neg hb,Bool.eq_false_iff.2 hb];rfl
  | succ j =>
   have hj:j<(v.fields).length:=by omega
   have hq:ZsH (v.fields) (j+1)=some (v.fields)[j].1:=by simp only [ZsH,List.getElem?_eq_getElem hj];rfl
   rw [hq]
   simp only [ZrJ]
   by_cases hb:Zei (v.fields)[j+1].1=true
   ·
    rw [if_pos hb,hb]
    simp only [Bool.not_true,Bool.false_eq_true,if_false,ZpK,if_true,ZkI]
    have hI:I64 (j:Int):=Zly (by omega)
    simp only [if_pos hI,Zam hj,Option.bind_some]
    by_cases h1:sEq (v.fields)[j+1].1 (v.fields)[j].1=true
    ·
     rw [if_pos h1,if_pos h1]
    ·
     rw [if_neg h1,if_neg h1]
     by_cases h2:sLt (v.fields)[j+1].1 (v.fields)[j].1=true
     ·
      rw [if_pos h2,if_pos h2]
     ·
      rw [if_neg h2,if_neg h2,if_pos (Zaj (by omega))]
      exact ih
   ·
    rw [if_neg hb,Bool.eq_false_iff.2 hb];rfl
def Zhc (v:Vl):Int :=
 if Za8 v=true then 19
 else if v.kind<1∨10<v.kind then 11
 else if Zby v=true then 3
 else if v.kind=1 then (if ZaY v.int 0 1=true then 2 else 0)
 else if v.kind=2 then (if ZaY v.int (-999999999999999) 999999999999999=true∨ZaY v.scale 0 12=true then 2 else 0)
 else if v.kind=3 then (if ZaY v.int (-999999999999999) 999999999999999=true∨ZaY v.scale 0 12=true then 2 else 0)
 else if v.kind=4 then (if 1024<v.text.size then 5 else if Lib.validD v.text.data.toList=true then 0 else 16)
 else if v.kind=5 then (if 1024<v.text.size then 5 else 0)
 else if v.kind=6 then (if ZaY v.int (-719162) 2932896=true then 2 else 0)
 else if v.kind=7 then (if ZaY v.int (-62135596800000) 253402300799999=true then 2 else 0)
 else if v.kind=8 then (if 256<v.list.length then 9 else 0)
 else if v.kind=9 then (if 64<v.fields.length then 9 else ZrJ none (v.fields.map Prod.fst))
 else if Zei v.text=true then (if v.list.length=0 then 4 else if 1<v.list.length then 3 else 0) else 12
theorem Zel {k:Int} (h:¬ (k<1∨10<k)):k=1∨k=2∨k=3∨k=4∨k=5∨k=6∨k=7∨k=8∨k=9∨k=10:=by omega
theorem Zxs (n:Nat) (v:Vl) (hn:v.fields.length<n) (hs:v.fields.length≤1000000000000) (hv:v.ok):Zpl n v=some (Zhc v):=by
 obtain ⟨o1,_,o3⟩:=v.ok_eq.1 hv
 have hz:∀ p∈v.fields,p.1.size≤maxLen:=fun p hp=>Zmf (by have:=(o3 p hp).1;omega)
 have hf:Zkp n v.fields=some (if 64<v.fields.length then 9 else ZrJ none (v.fields.map Prod.fst)):=by
  rw [Zkp]
  by_cases h:64<v.fields.length
  ·
   rw [if_pos h,if_pos (decide_eq_true (by omega))]
  ·
   rw [if_neg h,if_neg (by rw [decide_eq_true_eq];omega)]
   exact ZuU n v.fields hs hz v.fields.length n 0 (by omega) hn
 have ht:v.text.size≤maxLen:=Zmf o1
 rw [Zpl,Zhc,show Zqw v=Za8 v from rfl]
 by_cases h1:Za8 v=true
 ·
  rw [if_pos h1,if_pos h1]
 rw [if_neg h1,if_neg h1]
 by_cases h2:v.kind<1∨10<v.kind
 ·
  rw [if_pos h2,if_pos (by simpa using h2)]
 rw [if_neg h2,if_neg (by simpa using h2)]
 by_cases h3:Zby v=true
 ·
  rw [if_pos h3,if_pos h3]
 rw [if_neg h3,if_neg h3]
 rcases Zel h2 with hk | hk | hk | hk | hk | hk | hk | hk | hk | hk <;>
  simp only [hk,ZlA,Zln,Zec,hf,ht,if_true,Option.bind_some]<;>simp
 all_goals (repeat' split)<;>first | rfl | (exfalso;omega) | simp_all
theorem Zz0 (v:Vl) (h:¬ (v.kind<1∨10<v.kind)):ZjB v = !Zby v:=by
 have hp:∀ x:Nat,decide (0<(x:Int)) = !decide ((x:Int)=0):=fun x=>by
  by_cases h:x=0
  ·
   subst h;rfl
  ·
   rw [decide_eq_true (show 0<(x:Int) by omega),decide_eq_false (show ¬ (x:Int)=0 by omega)];rfl
 rw [ZjB,Zby]
 simp only [hp]
 rcases Zel h with hk | hk | hk | hk | hk | hk | hk | hk | hk | hk<;>simp only [hk]<;>simp [Bool.and_assoc]
theorem ZBK (n:Nat) (hn:3≤n) (a b:Int):Zi3 n [a,b]=some (if a=0 then b else a):=by
 obtain ⟨m,rfl⟩:∃ m,n=m+3:=⟨n-3,by omega⟩
 rw [Zi3,ZfK]
 simp only [List.length_cons,List.length_nil]
 rw [if_pos (by simp),show idx [a,b] 0=some a from rfl]
 simp only [Option.bind_some]
 by_cases h:a=0
 ·
  rw [decide_eq_true h,if_neg (by decide),if_pos (by decide),if_pos h,ZfK]
  simp only [List.length_cons,List.length_nil]
  rw [if_pos (by simp),show idx [a,b] (0+1)=some b from rfl]
  simp only [Option.bind_some]
  by_cases h2:b=0
  ·
   rw [decide_eq_true h2,if_neg (by decide),if_pos (by decide),ZfK]
   simp only [List.length_cons,List.length_nil]
   rw [if_neg (by simp),ZjN,h2]
  ·
   rw [decide_eq_false h2,if_pos (by decide)]
 ·
  rw [decide_eq_false h,if_pos (by decide),if_neg h]
theorem Zyi (n:Nat) (hn:3≤n) (v:Vl) (hfl:v.fields.length<n) (hs:v.fields.length≤1000000000000) (hv:v.ok) (h1:¬ Za8 v=true) (h2:¬ (v.kind<1∨10<v.kind)) (h3:¬ Zby v=true) :
  (v.kind=1→ZdY v=Zhc v)∧(v.kind=2→ZdI v=Zhc v)∧(v.kind=3→Zg2 n v=some (Zhc v))∧(v.kind=4→Zg0 v=some (Zhc v))∧(v.kind=5→ZdL v=Zhc v) ∧
  (v.kind=6→ZdV v=Zhc v)∧(v.kind=7→ZdW v=Zhc v)∧(v.kind=8→Zd0 v=Zhc v)∧(v.kind=9→ZgV n v=some (Zhc v))∧(v.kind=10→Zgi v=some (Zhc v)):=by
 obtain ⟨o1,_,o3⟩:=v.ok_eq.1 hv
 have hz:∀ p∈v.fields,p.1.size≤maxLen:=fun p hp=>Zmf (by have:=(o3 p hp).1;omega)
 have ht:v.text.size≤maxLen:=Zmf o1
 rw [Zhc,if_neg h1,if_neg h2,if_neg h3]
 refine ⟨fun hk=>?_,fun hk=>?_,fun hk=>?_,fun hk=>?_,fun hk=>?_,fun hk=>?_,fun hk=>?_,fun hk=>?_,fun hk=>?_,fun hk=>?_⟩
 ·
  simp [hk,ZdY,Zbr,ZaY]
 ·
  have a:v.scale=0:=by
   rw [Zby] at h3
   simp [hk] at h3
   exact h3.1.1.1
  simp [hk,a,ZdI,Zbr,ZaY]
 ·
  rw [Zg2,ZBK n hn]
  simp [hk,Zbr,ZaY]
  by_cases q:v.int < -999999999999999∨999999999999999<v.int
  ·
   simp [q];omega
  ·
   simp [q];omega
 ·
  rw [Zg0]
  simp only [hk,Zcd,Ze6,if_pos ht]
  simp
  (repeat' split)<;>first | rfl | (exfalso;omega) | simp_all
 ·
  simp [hk,ZdL,Zcd]
  (repeat' split)<;>first | rfl | (exfalso;omega) | simp_all
 ·
  simp [hk,ZdV,Zbr,ZaY]
 ·
  simp [hk,ZdW,Zbr,ZaY]
 ·
  simp [hk,Zd0,Zcd]
  (repeat' split)<;>first | rfl | (exfalso;omega) | simp_all
 ·
  rw [ZgV]
  by_cases h:64<v.fields.length
  ·
   simp [hk,Zcd,h,show (64:Int)<(v.fields.length:Int) by omega]
  ·
   have e:=ZvH n v hs hz v.fields.length n 0 (by omega) hfl
   simp only [List.drop_zero] at e
   simp only [hk,Zcd,decide_eq_false (show ¬ (64:Int)<(v.fields.length:Int) by omega),Bool.false_eq_true,if_false,decide_true,Bool.not_true,if_neg h]
   exact e
 ·
  rw [Zgi,if_pos ht]
  simp only [hk,Zcd]
  simp
  (repeat' split)<;>first | rfl | (exfalso;omega) | simp_all
theorem Zz9 (n:Nat) (hn:3≤n) (lv:Nat) (v:Vl) (rest:List (Nat × Vl)) (c:Int) (hfl:v.fields.length<n) (hs:v.fields.length≤1000000000000) (hv:v.ok) :
  Zbt n ((lv,v)::rest) c=if I64 (c+1) then (if 4096<c+1 then some 9 else if 8<(lv:Int) then some 23 else if Zhc v=0 then Zbt n rest (c+1) else some (Zhc v)) else none:=by
 rw [Zbt]
 by_cases hI:I64 (c+1)
 rotate_left
 ·
  rw [if_neg hI,if_neg hI]
 rw [if_pos hI,if_pos hI]
 by_cases q1:4096<c+1
 ·
  rw [if_pos q1,if_pos (decide_eq_true q1)]
 rw [if_neg q1,if_neg (by simpa using q1)]
 by_cases q2:8<(lv:Int)
 ·
  rw [if_pos q2,if_pos (decide_eq_true q2)]
 rw [if_neg q2,if_neg (by simpa using q2)]
 simp only
 by_cases h1:Za8 v=true
 ·
  have:Zhc v=19:=by rw [Zhc,if_pos h1]
  rw [if_pos h1,this];rfl
 rw [if_neg h1]
 by_cases h2:v.kind<1∨10<v.kind
 ·
  have:Zhc v=11:=by rw [Zhc,if_neg h1,if_pos h2]
  rw [if_pos (by simpa using h2),this];rfl
 rw [if_neg (by simpa using h2),Zz0 v h2]
 by_cases h3:Zby v=true
 ·
  have:Zhc v=3:=by rw [Zhc,if_neg h1,if_neg h2,if_pos h3]
  rw [h3,this];rfl
 rw [Bool.eq_false_iff.2 h3]
 obtain ⟨r1,r2,r3,r4,r5,r6,r7,r8,r9,a⟩:=Zyi n hn v hfl hs hv h1 h2 h3
 rcases Zel h2 with hk | hk | hk | hk | hk | hk | hk | hk | hk | hk
 ·
  have e:=r1 hk;by_cases z:Zhc v=0<;>simp [hk,e,z]
 ·
  have e:=r2 hk;by_cases z:Zhc v=0<;>simp [hk,e,z]
 ·
  have e:=r3 hk;by_cases z:Zhc v=0<;>simp [hk,e,z]
 ·
  have e:=r4 hk;by_cases z:Zhc v=0<;>simp [hk,e,z]
 ·
  have e:=r5 hk;by_cases z:Zhc v=0<;>simp [hk,e,z]
 ·
  have e:=r6 hk;by_cases z:Zhc v=0<;>simp [hk,e,z]
 ·
  have e:=r7 hk;by_cases z:Zhc v=0<;>simp [hk,e,z]
 ·
  have e:=r8 hk;by_cases z:Zhc v=0<;>simp [hk,e,z]
 ·
  have e:=r9 hk;by_cases z:Zhc v=0<;>simp [hk,e,z]
 ·
  have e:=a hk;by_cases z:Zhc v=0<;>simp [hk,e,z]
def Zn0:List (Nat × Vl)→Int→Int
 | [],_=>0
 | p::r,c=>if 4096<c+1 then 9 else if 8<(p.1:Int) then 23 else if Zhc p.2=0 then Zn0 r (c+1) else Zhc p.2
def Zp2 (v:Vl):Int:=Zn0 (Zha 1 v) 0
theorem ZkR {v x:Vl} (h:x∈Za6 v):x∈v.list∨∃ p∈v.fields,p.2=x:=by
 unfold Za6 at h
 split at h
 ·
  exact .inl h
 ·
  split at h
  ·
   obtain ⟨p,hp,rfl⟩:=List.mem_map.1 h;exact .inr ⟨p,hp,rfl⟩
  ·
   simp at h
theorem Zd4 {v x:Vl} (h:x∈Za6 v):x.size<v.size:=by
 rcases ZkR h with h | ⟨p,hp,rfl⟩
 ·
  exact v.list_size x h
 ·
  exact v.field_size p hp
theorem Zth {v x:Vl} (hv:v.ok) (h:x∈Za6 v):x.ok:=by
 obtain ⟨_,o2,o3⟩:=v.ok_eq.1 hv
 rcases ZkR h with h | ⟨p,hp,rfl⟩
 ·
  exact o2 x h
 ·
  exact (o3 p hp).2
theorem ZyB:∀ (k:Nat) (v:Vl) (lv:Nat),v.size≤k→v.ok→∀ p∈Zha lv v,p.2.ok∧p.2.size≤v.size
 | 0,v,lv,h,hv,p,hp=>absurd h (by have:=v.size_eq;omega)
 | k+1,v,lv,h,hv,p,hp=>by
  rw [Zhp] at hp
  rcases List.mem_cons.1 hp with rfl | hp
  ·
   exact ⟨hv,Nat.le_refl _⟩
  ·
   obtain ⟨x,hx,hp⟩:=List.mem_flatMap.1 hp
   have:=Zd4 hx
   obtain ⟨h1,h2⟩:=ZyB k x (lv+1) (by omega) (Zth hv hx) p hp
   exact ⟨h1,by omega⟩
theorem Zs7:∀ (k:Nat) (v:Vl) (lv:Nat),v.size≤k→v.wide=true→∀ p∈Zha lv v,p.2.wide=true
 | 0,v,lv,h,hv,p,hp=>absurd h (by have:=v.size_eq;omega)
 | k+1,v,lv,h,hv,p,hp=>by
  rw [Zhp] at hp
  rcases List.mem_cons.1 hp with rfl | hp
  ·
   exact hv
  ·
   obtain ⟨x,hx,hp⟩:=List.mem_flatMap.1 hp
   have:=Zd4 hx
   exact Zs7 k x (lv+1) (by omega) (Zrh hv hx) p hp
theorem Zeq (v:Vl):v.fields.length<v.size:=by have:=Zhz v.fields;have:=v.size_eq;omega
theorem ZnD (n:Nat) (hn:3≤n):∀ (l:List (Nat × Vl)) (c:Int),(∀ p∈l,p.2.ok∧p.2.fields.length≤1000000000000∧p.2.fields.length<n)→0≤c→c≤4096→Zbt n l c=some (Zn0 l c)
 | [],c,_,_,_=>rfl
 | p::r,c,hl,h1,h2=>by
  obtain ⟨o1,o2,o3⟩:=hl p (List.mem_cons_self ..)
  have:=Zeq p.2
  rw [show p=(p.1,p.2) from rfl,Zz9 n hn p.1 p.2 r c (by omega) (by omega) o1,if_pos (by unfold I64;omega),Zn0]
  simp only
  split
  ·
   rfl
  ·
   split
   ·
    rfl
   ·
    split
    ·
     exact ZnD n hn r (c+1) (fun q hq=>hl q (List.mem_cons_of_mem _ hq)) (by omega) (by omega)
    ·
     rfl
theorem Zud (n:Nat) (v:Vl) (hn:v.size+3≤n) (hs:v.depth<4611686018427387904) (hw:v.wide=true) (hv:v.ok):Zc5 n v=some (Zp2 v):=by
 rw [Zc5,if_pos ⟨hs,hw⟩]
 exact ZnD n (by omega) _ 0 (fun p hp=>by obtain ⟨h1,h2⟩:=ZyB v.size v 1 (Nat.le_refl _) hv p hp;exact ⟨h1,(p.2.wide_iff.1 (Zs7 v.size v 1 (Nat.le_refl _) hw p hp)).2.1,by have:=Zeq p.2;omega⟩) (by omega) (by omega)
theorem ZqZ (n:Nat) (v:Vl) (hn:v.size+3≤n) (hs:v.size<1048576) (hv:v.ok):Zc5 n v=some (Zp2 v) :=
 Zud n v hn (by have:=v.depth_size;omega) (Ze9 _ v (Nat.le_refl _) (by omega)) hv
theorem Zvg (n:Nat) (v:Vl) (hs:v.fields.length≤1000000000):∀ (k m i:Nat) (x:List Vl),i+k=v.fields.length→k<m→x.length=i→Zgd n v m x i=some (x++(v.fields.drop i).map (·.2))
 | k,0,i,_,_,h,_=>absurd h (Nat.not_lt_zero _)
 | 0,m+1,i,x,hi,_,_=>by
  rw [Zgd,Zal,decide_eq_false (by omega)]
  simp only [Bool.false_eq_true,if_false,Zh3]
  rw [List.drop_eq_nil_of_le (by omega),List.map_nil,List.append_nil]
 | k+1,m+1,i,x,hi,hm,hx=>by
  have a:i<v.fields.length:=by omega
  rw [Zgd,Zal,decide_eq_true a]
  simp only [if_true,Zam a,Option.bind_some]
  rw [if_pos (by omega),if_pos (Zaj (by omega))]
  have ih:=Zvg n v hs k m (i+1) (x++[v.fields[i].2]) (by omega) (by omega) (by simp [hx])
  rw [List.drop_eq_getElem_cons a,List.map_cons]
  rw [List.append_assoc] at ih
  exact ih
theorem Zoi (n:Nat) (v:Vl) (hn:v.size≤n) (hs:v.size≤1000000000):ZjQ n v=some (Za6 v):=by
 have a:=Zh0 v.list
 have b:=Zhz v.fields
 have c:=v.size_eq
 have h8:∀ b:Bool,b=true→ZgQ n v b=some v.list:=fun b hb=>by
  rw [ZgQ,if_pos hb,if_pos (by omega)];rfl
 rw [ZjQ,Za6]
 by_cases h1:v.kind=8
 ·
  rw [if_pos (decide_eq_true h1),h8 true rfl,if_pos (.inl h1)]
 ·
  rw [if_neg (by rw [decide_eq_true_eq];exact h1)]
  by_cases h2:v.kind=10
  ·
   rw [h8 _ (decide_eq_true h2),if_pos (.inr h2)]
  ·
   rw [if_neg (by omega),ZgQ,if_neg (by rw [decide_eq_true_eq];exact h2)]
   by_cases h3:v.kind=9
   ·
    rw [if_pos (decide_eq_true h3),if_pos h3]
    have:=Zvg n v (by omega) v.fields.length n 0 [] (by omega) (by omega) rfl
    rw [List.drop_zero,List.nil_append] at this
    exact this
   ·
    rw [if_neg (by rw [decide_eq_true_eq];exact h3),if_neg h3];rfl
theorem ZuJ (n:Nat) (ag:List Itm→Int→Option Int) (c:Int) (it:Itm) (ys:List Vl) (h1:I64 (it.level+1)) (h2:I64 (c+1)):∀ (k m:Nat) (s:List Itm),k≤ys.length→k<m→s.length+k≤1000000000 →
  Zf8 n ag c it ys m s ((k:Int)-1)=ag (s++((ys.take k).map fun y=>Itm.mk y (it.level+1)).reverse) (c+1)
 | k,0,s,_,h,_=>absurd h (Nat.not_lt_zero _)
 | 0,m+1,s,_,_,_=>by
  rw [Zf8,if_neg (by simp),Zl2,if_pos h2]
  simp
 | k+1,m+1,s,hk,hm,hs2=>by
  have a:k<ys.length:=by omega
  rw [Zf8,if_pos (by simp),ZkI,Zam a]
  simp only [Option.bind_some]
  rw [if_pos h1,if_pos (by omega),if_pos (by unfold I64;omega),ZuJ n ag c it ys h1 h2 k m _ (by omega) (by omega) (by simp;omega)]
  rw [List.take_succ_eq_append_getElem a,List.map_append,List.reverse_append,List.append_assoc]
  rfl
def ZtW (s:List Itm):List (Nat × Vl):=s.reverse.flatMap fun it=>Zha it.level.toNat it.v
def szS (s:List Itm):Nat:=(s.map fun it=>it.v.size).sum
theorem ZvG (s t:List Itm):szS (s++t)=szS s+szS t:=by simp [szS]
theorem Zz4 (s:List Itm):szS s.reverse=szS s:=by unfold szS;rw [List.map_reverse,List.sum_reverse]
theorem ZpV:∀ l:List Vl,Zf6 l=(l.map Vl.size).sum
 | []=>rfl
 | v::r=>by simp [Zf6,ZpV r]
theorem ZpU:∀ l:List (ByteArray × Vl),Zfo l=(l.map fun p=>p.2.size).sum
 | []=>rfl
 | (_,v)::r=>by simp [Zfo,ZpU r]
theorem Zql (v:Vl):((Za6 v).map Vl.size).sum<v.size:=by
 have c:=v.size_eq
 unfold Za6
 split
 ·
  rw [←ZpV];omega
 ·
  split
  ·
   rw [List.map_map]
   have:=ZpU v.fields
   have e:(v.fields.map (Vl.size∘fun x=>x.2)).sum=Zfo v.fields:=this.symm
   omega
  ·
   simp;omega
theorem ZvU (l:List Vl) (z:Int):szS (l.map fun y=>Itm.mk y z)=(l.map Vl.size).sum:=by
 unfold szS;rw [List.map_map];rfl
theorem Zsl:∀ s:List Itm,s.length≤szS s
 | []=>Nat.le_refl _
 | it::r=>by have:=Zsl r;have:=it.v.size_eq;simp [szS] at *; omega
theorem Zzi (n:Nat):∀ (m:Nat) (s:List Itm) (c:Int),szS s<m→szS s≤1000000000→(∀ it∈s,0≤it.level∧it.level≤9∧it.v.ok∧it.v.size<n)→0≤c→c≤4096→Zg7 n m s c=some (Zn0 (ZtW s) c)
 | 0,s,c,h,_,_,_,_=>absurd h (Nat.not_lt_zero _)
 | m+1,s,c,h,hz,hs,h1,h2=>by
  have d:=Zsl s
  rw [Zg7]
  rcases List.eq_nil_or_concat s with rfl | ⟨t,it,rfl⟩
  ·
   rfl
  ·
   rw [List.concat_eq_append] at *
   obtain ⟨q1,q2,q3,q4⟩:=hs it (by simp)
   have e1:(((t++[it]).length:Int))-1=(t.length:Int):=by rw [List.length_append];simp
   have e2:idx (t++[it]) (t.length:Int)=some it:=by
    rw [Zam (by simp)];simp
   have g:szS (t++[it])=szS t+it.v.size:=by rw [ZvG];simp [szS]
   have f:(t++[it]).length=t.length+1:=by simp
   rw [e1,e2,if_pos (by rw [decide_eq_true_eq];omega),if_pos (Zly (by omega))]
   simp only [Option.bind_some]
   rw [if_pos (Zly (by omega)),if_pos ⟨by omega,by omega⟩]
   have b:ZtW (t++[it])=(it.level.toNat,it.v)::((Za6 it.v).flatMap (Zha (it.level.toNat+1))++ZtW t):=by
    unfold ZtW
    rw [List.reverse_append,List.flatMap_append]
    simp only [List.reverse_cons,List.reverse_nil,List.nil_append,List.flatMap_cons,List.flatMap_nil,List.append_nil]
    rw [Zhp];rfl
   rw [b,Zn0]
   by_cases c1:4096<c+1
   ·
    rw [if_pos (decide_eq_true (by omega)),if_pos c1]
   rw [if_neg (by rw [decide_eq_true_eq];omega),if_neg c1]
   have a:((it.level.toNat:Nat):Int)=it.level:=by omega
   simp only [a]
   by_cases c2:8<it.level
   ·
    rw [if_pos (decide_eq_true c2),if_pos c2]
   have k:=Zeq it.v
   rw [if_neg (by rw [decide_eq_true_eq];exact c2),if_neg c2,Zxs n it.v (by omega) (by omega) q3]
   simp only [Option.bind_some]
   by_cases c3:Zhc it.v=0
   rotate_left
   ·
    rw [decide_eq_false c3,if_neg c3];rfl
   rw [decide_eq_true c3,if_pos c3,Zoi n it.v (by omega) (by omega)]
   simp only [Bool.not_true,Bool.false_eq_true,if_false,Option.bind_some,Int.toNat_natCast]
   have e:=(ZdR it.v).2.2
   have i:=Zsl t
   have l:=Zql it.v
   rw [if_pos (by unfold I64;omega),List.take_left,ZuJ n (Zg7 n m) c it (Za6 it.v) (by unfold I64;omega) (by unfold I64;omega) (Za6 it.v).length n t (Nat.le_refl _) (by omega) (by omega),List.take_length]
   have j:szS (t++((Za6 it.v).map fun y=>Itm.mk y (it.level+1)).reverse)=szS t+((Za6 it.v).map Vl.size).sum:=by
    rw [ZvG,Zz4,ZvU]
   rw [Zzi n m _ (c+1) (by omega) (by omega) (fun x hx=>?_) (by omega) (by omega)]
   ·
    congr 2
    unfold ZtW
    rw [List.reverse_append,List.reverse_reverse,List.flatMap_append,List.flatMap_map]
    congr 1
    dsimp only
    rw [show (it.level+1).toNat=it.level.toNat+1 by omega]
   ·
    rcases List.mem_append.1 hx with hx | hx
    ·
     exact hs x (by simp [hx])
    ·
     obtain ⟨y,hy,rfl⟩:=List.mem_map.1 (List.mem_reverse.1 hx)
     have:=Zd4 hy
     exact ⟨by simp only;omega,by simp only;omega,Zth q3 hy,by simp only;omega⟩
theorem ZlN (n:Nat) (v:Vl) (hn:v.size<n) (hs:v.size≤1000000000) (hv:v.ok):ZhS n v=some (Zp2 v):=by
 have e:szS [Itm.mk v 1]=v.size:=by simp [szS]
 rw [ZhS,Zzi n n [Itm.mk v 1] 0 (by omega) (by omega) (fun it a=>by rw [List.mem_singleton.1 a];exact ⟨by simp,by simp,hv,hn⟩) (by omega) (by omega)]
 simp [ZtW,Zp2]
theorem Zm1 (l:List Ty) (i:Nat) (h:i<l.length):Zgn (l.drop i)=l[i].size+Zgn (l.drop (i+1)):=by rw [List.drop_eq_getElem_cons h,Zgn]
theorem Zl4 (l:List TF) (i:Nat) (h:i<l.length):Zdz (l.drop i)=l[i].2.2.2.1.size+Zdz (l.drop (i+1)):=by
 rw [List.drop_eq_getElem_cons h]
 obtain ⟨a,b,c,t,d⟩:=l[i]
 rfl
def Ty.small (t:Ty):Prop:=t.size≤200∧t.depth≤12∧t.ok
def ZhX (rec:Ty→Vl→Option Bool) (a0:Vl) (a1:Ty):Option Bool :=
 (idx a1.elem 0).bind fun x3 =>
 (rec x3 a0).bind fun y4 =>
 some (!y4)
theorem Zuw (w0:World) (rec:Ty→Vl→Option Bool) (ih:∀ (B:List (List AV)) (Rw:List RowA) (L:List LoopA) (a0:Ty) (a1:Vl) (r:Bool) (h:rec a0 a1=some r),ACalls Tryz.prog w0 107 [.agg (a0.cs),.agg (a1.cs)] ⟨B,Rw,L⟩ fun x st=>x = .val (.bool r)∧st=⟨B,Rw,L⟩) (B:List (List AV)) (Rw:List RowA) (L:List LoopA) (a0:Vl) (la1:Nat) (a1:Ty) (hla1:B[la1]? = some (a1.cs)) (r:Bool) (h:ZhX rec a0 a1=some r) :
  ACalls Tryz.prog w0 183 [.agg (a0.cs),.box la1 0] ⟨B,Rw,L⟩ fun x st=>x = .val (.bool r)∧st=⟨B,Rw,L⟩:=by
 rw [ZhX] at h
 refine hd [.tmp 3] Tryz.func183 Tryz.ntmps183 fun M0 W0 hN m n b hu hO hs=>?_
 simp only [Zaq]
 have g:=(List.getElem?_eq_some_iff.1 hla1).1
 have hs:=And.intro (Zag hla1) hs
 refine rg [1,2] hs ?_
 obtain ⟨x3,i,h⟩:=bind_some h
 obtain ⟨l,k,d⟩:=Zan i
 have a:=Zap (f:=avT) d
 have e:(a1.elem.map avT).getD 0 .junk=_:=a
 obtain ⟨y4,j,h⟩:=bind_some h
 have hs:=And.intro a hs
 have hs:=And.intro e hs
 apply Zaa;intro K2 c
 refine dk 8 2 1 [3] hs mix ?_
 refine Zac _ (ih _ _ _ x3 a0 _ j) (hv hs) ?_
 refine dn hs c ?_
 clear c
 exact rt h hs b hO
def ZdN (n:Nat)  : Option Int :=
 some ((-1))
def ZaZ (n:Nat) (a0:List (ByteArray × Vl)) (a1:(ByteArray × Vl)→Option Bool):Nat→Int→Option Int
 | 0,_=>none
 | m+1,x8_l6 =>
  if decide (x8_l6<((a0.length:Int))) then
   (idx a0 x8_l6).bind fun x13 =>
   (a1 x13).bind fun y14 =>
   if y14 then
    some (x8_l6)
   else
    if I64 (x8_l6+1) then
     (ZaZ n a0 a1 m) (x8_l6+1)
    else none
  else
   ZdN n 
def Zbp (n:Nat) (a0:List (ByteArray × Vl)) (a1:(ByteArray × Vl)→Option Bool):Option Int :=
 ZaZ n a0 a1 n 0
theorem Zgk (w0:World) (n:Nat) (B:List (List AV)) (Rw:List RowA) (L:List LoopA) (a0:List (ByteArray × Vl)) (fa1:FuncId) (ca1:List AV) (a1:(ByteArray × Vl)→Option Bool) (ha1:∀ (x0:ByteArray × Vl) r,a1 x0=some r→∀ B' rows,B <+: B'→Rw <+: rows→ACalls Tryz.prog w0 fa1 ([.agg (.val (.string x0.1)::(x0.2.cs))]++ca1) ⟨B',rows,L⟩ fun v s=>v = .val (.bool r)∧s=⟨B',rows,L⟩) (r:Int) (h:Zbp n a0 a1=some r) :
  ACalls Tryz.prog w0 67 [.list (a0.map avF) .none,.clo fa1 ca1] ⟨B,Rw,L⟩ fun x st=>x = .val (.int .i64 r)∧st=⟨B,Rw,L⟩:=by
 rw [Zbp] at h
 refine hd [.tmp 4] Tryz.func67 Tryz.ntmps67 fun M0 W0 hN k q a hu hO hs=>?_
 simp only [Zaq]
 have c:=ZbC (hu (.clo fa1 ca1) (by simp))
 refine rg [0,1] hs ?_
 refine Zak (fun e st=>Ck e st B Rw L [] [] [] (ZdN n  = some r)) ?_ ?_
 ·
  intro K4 t
  refine rg [0,1,7,8] hs ?_
  apply Zad
  refine Zao (fun m e st=>∃ (b:Int),Ck e st B Rw L [(0,true,.list (a0.map avF) .none),(1,true,.clo fa1 ca1),(7,true,.val (.int .i64 ((a0.length:Int)))),(8,true,.val (.int .i64 b))] [] [] (ZaZ n a0 a1 m b=some r)) n ⟨0,([]),Rw,ef hs,ef hs,hO,h⟩ ?_
  rintro ml6 e st ⟨b,Xl6,Rl6,rfl,rfl,hO,h⟩ Ul6 Vl6
  cases ml6 with
  | zero=>cases h
  | succ ml6 =>
  rw [ZaZ] at h
  refine ZaD hN k q rfl a hO (owf c hO) (owf c hO) ?_
  refine rg [0,1,7,8,9] hs ?_
  apply Zaa;intro K8 o
  refine cnd h hs (fun hs h=>?_) (fun hs h=>?_)
  rotate_left
  ·
   refine sx [] hs t ?_
   exact ⟨([]),Rl6,ef hs,ef hs,hO,h⟩
  refine sk [0,1,7,8] hs o ?_
  clear o
  apply Zaa;intro K10 d
  apply Zad
  refine rg [0,1,5,7,8] hs ?_
  obtain ⟨u,l,h⟩:=bind_some h
  obtain ⟨w,y,i⟩:=Zan l
  have j:=Zap (f:=avF) i
  obtain ⟨aa,p,h⟩:=bind_some h
  have hs:=And.intro j hs
  refine rc 2 [0,1,5,7,8,16] hs ?_;intro K12 g
  refine ZeR _ (ha1 u _ p _ _ px hO.pre) (hv hs) ?_
  refine ne hs g ?_
  clear g
  refine cnd h hs (fun hs h=>?_) (fun hs h=>?_)
  ·
   refine rg [4] hs ?_
   exact rt h hs a hO
  refine sk [0,1,7,8] hs d ?_
  clear d
  obtain ⟨z,h⟩:=Zab h
  refine rl [0,1,7,8] hs (fun e s=>Vl6 ml6 e s (Nat.lt_succ_self _)) ?_
  exact ⟨(b+1),([]),Rl6,ef hs,ef hs,hO,h⟩
 ·
  clear h;rintro e st ⟨Xk3,Rk3,rfl,rfl,hO,h⟩
  rw [ZdN] at h
  refine ZaD hN k q rfl a hO (owf c hO) (owf c hO) ?_
  refine rg [4] hs ?_
  exact rt h hs a hO
def ZeJ (a0:ByteArray × Vl) (a1:ByteArray):Bool :=
 sEq a0.1 a1
theorem Zqo (w0:World) (B:List (List AV)) (Rw:List RowA) (L:List LoopA) (a0:ByteArray × Vl) (la1:Nat) (a1:ByteArray) (hla1:B[la1]? = some ([.val (.string a1)])) (r:Bool) (h:ZeJ a0 a1=r) :
  ACalls Tryz.prog w0 124 [.agg (.val (.string a0.1)::(a0.2.cs)),.box la1 0] ⟨B,Rw,L⟩ fun x st=>x = .val (.bool r)∧st=⟨B,Rw,L⟩:=by
 rw [ZeJ] at h
 refine hd [.tmp 3] Tryz.func124 Tryz.ntmps124 fun M0 W0 hN c d a hu hO hs=>?_
 simp only [Zaq]
 have b:=(List.getElem?_eq_some_iff.1 hla1).1
 have hs:=And.intro (Zag hla1) hs
 refine rg [1,2] hs ?_
 refine rg [3] hs ?_
 exact rT h hs a hO
theorem ZpZ (w0:World) (B:List (List AV)) (Rw:List RowA) (L:List LoopA) (a0:ByteArray × Vl) (la1:Nat) (a1:ByteArray) (hla1:B[la1]? = some ([.val (.string a1)])) :
  ACalls Tryz.prog w0 124 [.agg (.val (.string a0.1)::(a0.2.cs)),.box la1 0] ⟨B,Rw,L⟩ fun x st=>x = .val (.bool (ZeJ a0 a1))∧st=⟨B,Rw,L⟩:=Zqo w0 B Rw L a0 la1 a1 hla1 _ rfl
def Zjt (n:Nat) (a0:Vl) (a1:ByteArray):Option Int :=
 (Zbp n a0.fields (fun (x0:ByteArray × Vl)=>some (ZeJ x0 a1))).bind fun y3 =>
 some (y3)
theorem Zuj (w0:World) (n:Nat) (B:List (List AV)) (Rw:List RowA) (L:List LoopA) (a0:Vl) (a1:ByteArray) (r:Int) (h:Zjt n a0 a1=some r) :
  ACalls Tryz.prog w0 64 [.agg (a0.cs),.val (.string a1)] ⟨B,Rw,L⟩ fun x st=>x = .val (.int .i64 r)∧st=⟨B,Rw,L⟩:=by
 rw [Zjt] at h
 refine hd [.tmp 4] Tryz.func64 Tryz.ntmps64 fun M0 W0 hN d f a hu hO hs=>?_
 simp only [Zaq]
 refine rg [2,3] hs ?_
 obtain ⟨y3,hy3,h⟩:=bind_some h
 refine rc 2 [4] hs ?_;intro K2 b
 refine Zac _ (Zgk w0 n _ _ _ a0.fields 124 [.box (B.length+1) 0] (fun (x0:ByteArray × Vl)=>some (ZeJ x0 a1)) (fun x0 r hx B' c hB' e=>by cases hx;exact ZpZ w0 _ _ _ x0 _ a1 (ZcE hB' ev)) _ hy3) (hv hs) ?_
 refine ne hs b ?_
 clear b
 exact rt h hs a hO
def Zfw (n:Nat) (a0:Vl) (a1:ByteArray):Option (Vl × Bool) :=
 (Zjt n a0 a1).bind fun y3 =>
 if (!(decide (a0.kind=9)))||(decide (y3<0)) then
  some ((Vl.mk 0 0 0 ((⟨#[]⟩:ByteArray)) ([]) ([]),false))
 else
  (idx a0.fields y3).bind fun x9 =>
  (Zbi n x9.2).bind fun y10 =>
  some ((y10,true))
theorem Zlu (w0:World) (n:Nat) (B:List (List AV)) (Rw:List RowA) (L:List LoopA) (a0:Vl) (a1:ByteArray) (r:Vl × Bool) (h:Zfw n a0 a1=some r) :
  ACalls Tryz.prog w0 185 [.agg (a0.cs),.val (.string a1)] ⟨B,Rw,L⟩ fun x st=>x = .tup [.agg (r.1.cs),.val (.bool r.2)]∧st=⟨B,Rw,L⟩:=by
 rw [Zfw] at h
 refine hd [.cell 4 46,.tmp 5] Tryz.func185 Tryz.ntmps185 fun M0 W0 hN o q a hu hO hs=>?_
 simp only [Zaq]
 refine rg [1,2,4] hs ?_
 obtain ⟨y3,k,h⟩:=bind_some h
 refine rc 2 [2,4,6] hs ?_;intro K2 e
 refine Zac _ (Zuj w0 n _ _ _ a0 a1 _ k) (hv hs) ?_
 refine ne hs e ?_
 clear e
 apply Zaa;intro K4 b
 refine rg [2,4,6,16] hs ?_
 refine cnd h hs (fun hs h=>?_) (fun hs h=>?_)
 ·
  refine rg [4,5] hs ?_
  exact rt h hs a hO
 refine sk [2,4,6] hs b ?_
 clear b
 obtain ⟨x9,j,h⟩:=bind_some h
 obtain ⟨l,m,g⟩:=Zan j
 have d:=Zap (f:=avF) g
 obtain ⟨p,i,h⟩:=bind_some h
 have hs:=And.intro d hs
 refine rc 2 [4,5] hs ?_;intro K8 c
 refine Zac _ (ZeZ w0 n _ _ _ x9.2 _ i) (hv hs) ?_
 refine ne hs c ?_
 clear c
 exact rt h hs a hO
def ZhI (n:Nat) (a0:Int × ByteArray × Int × Ty × List Vl) (a1:Vl):Option Bool :=
 (Zfw n a1 a0.2.1).bind fun y3 =>
 some ((!y3.2)&&(!(decide (a0.2.2.1=2))))
theorem Zt4 (w0:World) (n:Nat) (B:List (List AV)) (Rw:List RowA) (L:List LoopA) (a0:Int × ByteArray × Int × Ty × List Vl) (la1:Nat) (a1:Vl) (hla1:B[la1]? = some (a1.cs)) (r:Bool) (h:ZhI n a0 a1=some r) :
  ACalls Tryz.prog w0 184 [.agg (.val (.int .i64 a0.1)::(.val (.string a0.2.1)::(.val (.int .i64 a0.2.2.1)::((a0.2.2.2.1.cs)++([.list (a0.2.2.2.2.map avV) .none]))))),.box la1 0] ⟨B,Rw,L⟩ fun x st=>x = .val (.bool r)∧st=⟨B,Rw,L⟩:=by
 rw [ZhI] at h
 refine hd [.tmp 3] Tryz.func184 Tryz.ntmps184 fun M0 W0 hN e f a hu hO hs=>?_
 simp only [Zaq]
 have c:=(List.getElem?_eq_some_iff.1 hla1).1
 have hs:=And.intro (Zag hla1) hs
 refine rg [1,2] hs ?_
 obtain ⟨y3,d,h⟩:=bind_some h
 refine rc 2 [2,5] hs ?_;intro K2 b
 refine Zac _ (Zlu w0 n _ _ _ a1 a0.2.1 _ d) (hv hs) ?_
 refine ne hs b ?_
 clear b
 refine rg [3] hs ?_
 exact rt h hs a hO
def Zas (n:Nat) (a0:List (Int × ByteArray × Int × Ty × List Vl)) (a1:(Int × ByteArray × Int × Ty × List Vl)→Option Bool):Option Bool :=
 (Zay n a0 a1).bind fun y3 =>
 some (decide (0≤y3))
theorem ZbF (w0:World) (n:Nat) (B:List (List AV)) (Rw:List RowA) (L:List LoopA) (a0:List (Int × ByteArray × Int × Ty × List Vl)) (fa1:FuncId) (ca1:List AV) (a1:(Int × ByteArray × Int × Ty × List Vl)→Option Bool) (ha1:∀ (x0:Int × ByteArray × Int × Ty × List Vl) r,a1 x0=some r→∀ B' rows,B <+: B'→Rw <+: rows→ACalls Tryz.prog w0 fa1 ([.agg (.val (.int .i64 x0.1)::(.val (.string x0.2.1)::(.val (.int .i64 x0.2.2.1)::((x0.2.2.2.1.cs)++([.list (x0.2.2.2.2.map avV) .none])))))]++ca1) ⟨B',rows,L⟩ fun v s=>v = .val (.bool r)∧s=⟨B',rows,L⟩) (r:Bool) (h:Zas n a0 a1=some r) :
  ACalls Tryz.prog w0 150 [.list (a0.map ZeF) .none,.clo fa1 ca1] ⟨B,Rw,L⟩ fun x st=>x = .val (.bool r)∧st=⟨B,Rw,L⟩:=by
 rw [Zas] at h
 refine hd [.tmp 4] Tryz.func150 Tryz.ntmps150 fun M0 W0 hN g i b hu hO hs=>?_
 simp only [Zaq]
 have d:=ZbC (hu (.clo fa1 ca1) (by simp))
 refine rg [0,1] hs ?_
 obtain ⟨y3,f,h⟩:=bind_some h
 refine rc 2 [4] hs ?_;intro K2 c
 refine Zac _ (ZbY w0 n _ _ _ a0 fa1 ca1 a1 (fun x0 r hx e a q1 q2=>ha1 x0 r hx e a (List.IsPrefix.trans px q1) (hO.pre.trans q2)) _ f) (hv hs) ?_
 refine ne hs c ?_
 clear c
 exact rt h hs b hO
def ZdM (n:Nat)  : Option Int :=
 some ((-1))
def Zbj (n:Nat) (a0:List Vl) (a1:Vl→Option Bool):Nat→Int→Option Int
 | 0,_=>none
 | m+1,x8_l6 =>
  if decide (x8_l6<((a0.length:Int))) then
   (idx a0 x8_l6).bind fun x13 =>
   (a1 x13).bind fun y14 =>
   if y14 then
    some (x8_l6)
   else
    if I64 (x8_l6+1) then
     (Zbj n a0 a1 m) (x8_l6+1)
    else none
  else
   ZdM n 
def ZcY (n:Nat) (a0:List Vl) (a1:Vl→Option Bool):Option Int :=
 Zbj n a0 a1 n 0
theorem Zjn (w0:World) (n:Nat) (B:List (List AV)) (Rw:List RowA) (L:List LoopA) (a0:List Vl) (fa1:FuncId) (ca1:List AV) (a1:Vl→Option Bool) (ha1:∀ (x0:Vl) r,a1 x0=some r→∀ B' rows,B <+: B'→Rw <+: rows→ACalls Tryz.prog w0 fa1 ([.agg (x0.cs)]++ca1) ⟨B',rows,L⟩ fun v s=>v = .val (.bool r)∧s=⟨B',rows,L⟩) (r:Int) (h:ZcY n a0 a1=some r) :
  ACalls Tryz.prog w0 225 [.list (a0.map avV) .none,.clo fa1 ca1] ⟨B,Rw,L⟩ fun x st=>x = .val (.int .i64 r)∧st=⟨B,Rw,L⟩:=by
 rw [ZcY] at h
 refine hd [.tmp 4] Tryz.func225 Tryz.ntmps225 fun M0 W0 hN k q a hu hO hs=>?_
 simp only [Zaq]
 have c:=ZbC (hu (.clo fa1 ca1) (by simp))
 refine rg [0,1] hs ?_
 refine Zak (fun e st=>Ck e st B Rw L [] [] [] (ZdM n  = some r)) ?_ ?_
 ·
  intro K4 t
  refine rg [0,1,7,8] hs ?_
  apply Zad
  refine Zao (fun m e st=>∃ (b:Int),Ck e st B Rw L [(0,true,.list (a0.map avV) .none),(1,true,.clo fa1 ca1),(7,true,.val (.int .i64 ((a0.length:Int)))),(8,true,.val (.int .i64 b))] [] [] (Zbj n a0 a1 m b=some r)) n ⟨0,([]),Rw,ef hs,ef hs,hO,h⟩ ?_
  rintro ml6 e st ⟨b,Xl6,Rl6,rfl,rfl,hO,h⟩ Ul6 Vl6
  cases ml6 with
  | zero=>cases h
  | succ ml6 =>
  rw [Zbj] at h
  refine ZaD hN k q rfl a hO (owf c hO) (owf c hO) ?_
  refine rg [0,1,7,8,9] hs ?_
  apply Zaa;intro K8 o
  refine cnd h hs (fun hs h=>?_) (fun hs h=>?_)
  rotate_left
  ·
   refine sx [] hs t ?_
   exact ⟨([]),Rl6,ef hs,ef hs,hO,h⟩
  refine sk [0,1,7,8] hs o ?_
  clear o
  apply Zaa;intro K10 d
  apply Zad
  refine rg [0,1,5,7,8] hs ?_
  obtain ⟨u,l,h⟩:=bind_some h
  obtain ⟨w,y,i⟩:=Zan l
  have j:=Zap (f:=avV) i
  obtain ⟨aa,p,h⟩:=bind_some h
  have hs:=And.intro j hs
  refine rc 2 [0,1,5,7,8,16] hs ?_;intro K12 g
  refine ZeR _ (ha1 u _ p _ _ px hO.pre) (hv hs) ?_
  refine ne hs g ?_
  clear g
  refine cnd h hs (fun hs h=>?_) (fun hs h=>?_)
  ·
   refine rg [4] hs ?_
   exact rt h hs a hO
  refine sk [0,1,7,8] hs d ?_
  clear d
  obtain ⟨z,h⟩:=Zab h
  refine rl [0,1,7,8] hs (fun e s=>Vl6 ml6 e s (Nat.lt_succ_self _)) ?_
  exact ⟨(b+1),([]),Rl6,ef hs,ef hs,hO,h⟩
 ·
  clear h;rintro e st ⟨Xk3,Rk3,rfl,rfl,hO,h⟩
  rw [ZdM] at h
  refine ZaD hN k q rfl a hO (owf c hO) (owf c hO) ?_
  refine rg [4] hs ?_
  exact rt h hs a hO
def ZbJ (n:Nat) (a0:List Vl) (a1:Vl→Option Bool):Option Bool :=
 (ZcY n a0 a1).bind fun y3 =>
 some (decide (0≤y3))
theorem ZhH (w0:World) (n:Nat) (B:List (List AV)) (Rw:List RowA) (L:List LoopA) (a0:List Vl) (fa1:FuncId) (ca1:List AV) (a1:Vl→Option Bool) (ha1:∀ (x0:Vl) r,a1 x0=some r→∀ B' rows,B <+: B'→Rw <+: rows→ACalls Tryz.prog w0 fa1 ([.agg (x0.cs)]++ca1) ⟨B',rows,L⟩ fun v s=>v = .val (.bool r)∧s=⟨B',rows,L⟩) (r:Bool) (h:ZbJ n a0 a1=some r) :
  ACalls Tryz.prog w0 182 [.list (a0.map avV) .none,.clo fa1 ca1] ⟨B,Rw,L⟩ fun x st=>x = .val (.bool r)∧st=⟨B,Rw,L⟩:=by
 rw [ZbJ] at h
 refine hd [.tmp 4] Tryz.func182 Tryz.ntmps182 fun M0 W0 hN g i b hu hO hs=>?_
 simp only [Zaq]
 have d:=ZbC (hu (.clo fa1 ca1) (by simp))
 refine rg [0,1] hs ?_
 obtain ⟨y3,f,h⟩:=bind_some h
 refine rc 2 [4] hs ?_;intro K2 c
 refine Zac _ (Zjn w0 n _ _ _ a0 fa1 ca1 a1 (fun x0 r hx e a q1 q2=>ha1 x0 r hx e a (List.IsPrefix.trans px q1) (hO.pre.trans q2)) _ f) (hv hs) ?_
 refine ne hs c ?_
 clear c
 exact rt h hs b hO
def Zfy (n:Nat)  : Option Int :=
 some ((-1))
def ZbP (n:Nat) (a0:List ByteArray) (a1:ByteArray):Nat→Int→Option Int
 | 0,_=>none
 | m+1,x8_l6 =>
  if decide (x8_l6<((a0.length:Int))) then
   (idx a0 x8_l6).bind fun x13 =>
   if sEq a1 x13 then
    some (x8_l6)
   else
    if I64 (x8_l6+1) then
     (ZbP n a0 a1 m) (x8_l6+1)
    else none
  else
   Zfy n 
def Zek (n:Nat) (a0:List ByteArray) (a1:ByteArray):Option Int :=
 ZbP n a0 a1 n 0
theorem Zk4 (w0:World) (n:Nat) (B:List (List AV)) (Rw:List RowA) (L:List LoopA) (a0:List ByteArray) (a1:ByteArray) (r:Int) (h:Zek n a0 a1=some r) :
  ACalls Tryz.prog w0 190 [.list (a0.map avS) .none,.val (.string a1)] ⟨B,Rw,L⟩ fun x st=>x = .val (.int .i64 r)∧st=⟨B,Rw,L⟩:=by
 rw [Zek] at h
 refine hd [.tmp 4] Tryz.func190 Tryz.ntmps190 fun M0 W0 hN i l a hu hO hs=>?_
 simp only [Zaq]
 refine rg [0,1] hs ?_
 refine Zak (fun e st=>Ck e st B Rw L [] [] [] (Zfy n  = some r)) ?_ ?_
 ·
  intro K4 o
  refine rg [0,1,7,8] hs ?_
  apply Zad
  refine Zao (fun m e st=>∃ (b:Int),Ck e st B Rw L [(0,true,.list (a0.map avS) .none),(1,true,.val (.string a1)),(7,true,.val (.int .i64 ((a0.length:Int)))),(8,true,.val (.int .i64 b))] [] [] (ZbP n a0 a1 m b=some r)) n ⟨0,([]),Rw,ef hs,ef hs,hO,h⟩ ?_
  rintro ml6 e st ⟨b,Xl6,Rl6,rfl,rfl,hO,h⟩ Ul6 Vl6
  cases ml6 with
  | zero=>cases h
  | succ ml6 =>
  rw [ZbP] at h
  refine td hN i l a hO ?_
  refine rg [0,1,7,8,9] hs ?_
  apply Zaa;intro K8 k
  refine cnd h hs (fun hs h=>?_) (fun hs h=>?_)
  rotate_left
  ·
   refine sx [] hs o ?_
   exact ⟨([]),Rl6,ef hs,ef hs,hO,h⟩
  refine sk [0,1,7,8] hs k ?_
  clear k
  apply Zaa;intro K10 c
  apply Zad
  refine rg [0,1,5,7,8] hs ?_
  obtain ⟨u,j,h⟩:=bind_some h
  obtain ⟨p,q,d⟩:=Zan j
  have g:=Zap (f:=avS) d
  have hs:=And.intro g hs
  refine rg [0,1,5,7,8,16] hs ?_
  refine cnd h hs (fun hs h=>?_) (fun hs h=>?_)
  ·
   refine rg [4] hs ?_
   exact rt h hs a hO
  refine sk [0,1,7,8] hs c ?_
  clear c
  obtain ⟨t,h⟩:=Zab h
  refine rl [0,1,7,8] hs (fun e s=>Vl6 ml6 e s (Nat.lt_succ_self _)) ?_
  exact ⟨(b+1),([]),Rl6,ef hs,ef hs,hO,h⟩
 ·
  clear h;rintro e st ⟨Xk3,Rk3,rfl,rfl,hO,h⟩
  rw [Zfy] at h
  refine td hN i l a hO ?_
  refine rg [4] hs ?_
  exact rt h hs a hO
def ZaR (n:Nat) (a0:List ByteArray) (a1:ByteArray):Option Bool :=
 (Zek n a0 a1).bind fun y3 =>
 some (decide (0≤y3))
theorem ZcI (w0:World) (n:Nat) (B:List (List AV)) (Rw:List RowA) (L:List LoopA) (a0:List ByteArray) (a1:ByteArray) (r:Bool) (h:ZaR n a0 a1=some r) :
  ACalls Tryz.prog w0 131 [.list (a0.map avS) .none,.val (.string a1)] ⟨B,Rw,L⟩ fun x st=>x = .val (.bool r)∧st=⟨B,Rw,L⟩:=by
 rw [ZaR] at h
 refine hd [.tmp 4] Tryz.func131 Tryz.ntmps131 fun M0 W0 hN d e a hu hO hs=>?_
 simp only [Zaq]
 refine rg [0,1] hs ?_
 obtain ⟨y3,c,h⟩:=bind_some h
 refine rc 2 [4] hs ?_;intro K2 b
 refine Zac _ (Zk4 w0 n _ _ _ a0 a1 _ c) (hv hs) ?_
 refine ne hs b ?_
 clear b
 exact rt h hs a hO
def Zk2 (rec:Ty→Vl→Option Bool) (n:Nat) (a0:Ty) (a1:Vl):Option Bool :=
 (Zas n a0.fields (fun (x0:Int × ByteArray × Int × Ty × List Vl)=>ZhI n x0 a1)).bind fun y69 =>
 some (!y69)
def Zmr (rec:Ty→Vl→Option Bool) (n:Nat)  : Option Bool :=
 some (true)
def Zga (rec:Ty→Vl→Option Bool) (n:Nat) (a0:Ty) (a1:Vl):Nat→Int→Option Bool
 | 0,_=>none
 | m+1,x107_l51 =>
  if decide (x107_l51<((a1.fields.length:Int))) then
   (idx a1.fields x107_l51).bind fun x57 =>
   (Zfj n a0 x57.1).bind fun y59 =>
   if !y59.2 then
    some (false)
   else
    (rec y59.1.2.2.2.1 x57.2).bind fun y64 =>
    if !y64 then
     some (false)
    else
     if I64 (x107_l51+1) then
      (Zga rec n a0 a1 m) (x107_l51+1)
     else none
  else
   Zk2 rec n a0 a1 
def Zb7 (rec:Ty→Vl→Option Bool) (n:Nat) (a0:Ty) (a1:Vl) (x18_k11:Bool):Option Bool :=
 if x18_k11 then
  some ((decide (a0.min≤a1.int)&&decide (a1.int≤a0.max))&&(decide (a1.scale=a0.scale)))
 else
  if decide (a0.kind=4) then
   if decide (0<((a0.words.length:Int))) then
    (ZaR n a0.words a1.text).bind fun y27 =>
    some (y27)
   else
    some (decide (a0.min≤((a1.text.size:Int)))&&decide (((a1.text.size:Int))≤a0.max))
  else
   if decide (a0.kind=5) then
    some (decide (a0.min≤((a1.text.size:Int)))&&decide (((a1.text.size:Int))≤a0.max))
   else
    if decide (a0.kind=8) then
     if decide (a0.min≤((a1.list.length:Int)))&&decide (((a1.list.length:Int))≤a0.max) then
      (ZbJ n a1.list (fun (x0:Vl)=>ZhX rec x0 a0)).bind fun y36 =>
      some (!y36)
     else
      some (false)
    else
     if decide (a0.kind=10) then
      (Zfj n a0 a1.text).bind fun y40 =>
      if y40.2 then
       (idx a1.list 0).bind fun x43 =>
       (rec y40.1.2.2.2.1 x43).bind fun y44 =>
       some (y44)
      else
       some (false)
     else
      if decide (a0.kind=9) then
       Zga rec n a0 a1 n 0
      else
       Zmr rec n 
def Zpz (rec:Ty→Vl→Option Bool) (n:Nat) (a0:Ty) (a1:Vl):Option Bool :=
 if !(decide (a1.kind=a0.kind)) then
  some (false)
 else
  if decide (a0.kind=2) then
   Zb7 rec n a0 a1 true
  else
   if decide (a0.kind=6) then
    Zb7 rec n a0 a1 true
   else
    if decide (a0.kind=7) then
     Zb7 rec n a0 a1 true
    else
     Zb7 rec n a0 a1 (decide (a0.kind=3))
def Zfs:Nat→Ty→Vl→Option Bool
 | 0,_,_=>none
 | n+1,a0,a1=>Zpz (Zfs n) n a0 a1
def ZrZ (w0:World) (F:Ty→Vl→Option Bool):Prop:=∀ (B:List (List AV)) (Rw:List RowA) (L:List LoopA) (a0:Ty) (a1:Vl) (r:Bool),F a0 a1=some r→ACalls Tryz.prog w0 107 [.agg (a0.cs),.agg (a1.cs)] ⟨B,Rw,L⟩ fun x st=>x = .val (.bool r)∧st=⟨B,Rw,L⟩
theorem Zuq (w0:World) (rec:Ty→Vl→Option Bool) (ih:ZrZ w0 rec) (n:Nat):ZrZ w0 (Zpz rec n):=by
 intro B Rw L a0 a1 r h
 rw [Zpz] at h
 refine hd [.tmp 4] Tryz.func107 Tryz.ntmps107 fun M0 W0 hN o p a hu hO hs=>?_
 simp only [Zaq]
 refine rg [2,3] hs ?_
 apply Zaa;intro K2 av
 refine rg [2,3,15] hs ?_
 refine cnd h hs (fun hs h=>?_) (fun hs h=>?_)
 ·
  refine rg [4] hs ?_
  exact rt h hs a hO
 refine sk [2,3] hs av ?_
 clear av
 refine Zak (fun e st=>Ck e st B Rw L [] [a0.cs,a1.cs] [] (Zmr rec n  = some r)) ?_ ?_
 ·
  intro K8 a4
  refine rg [2,3,17] hs ?_
  apply Zad
  refine Zak (fun e st=>∃ (c:Bool),Ck e st B Rw L [(2,true,.box B.length 0),(3,true,.box (B.length+1) 0),(17,true,.val (.int .i64 a0.kind)),(18,true,.val (.bool c))] [a0.cs,a1.cs] [] (Zb7 rec n a0 a1 c=some r)) ?_ ?_
  ·
   intro K12 j
   refine rg [2,3,17,18] hs ?_
   refine cnd h hs (fun hs h=>?_) (fun hs h=>?_)
   ·
    refine sk [2,3,17,18] hs j ?_
    exact ⟨true,([]),Rw,ef hs,ef hs,hO,h⟩
   refine rg [2,3,17,18] hs ?_
   refine cnd h hs (fun hs h=>?_) (fun hs h=>?_)
   ·
    refine sk [2,3,17,18] hs j ?_
    exact ⟨true,([]),Rw,ef hs,ef hs,hO,h⟩
   refine rg [2,3,17,18] hs ?_
   refine cnd h hs (fun hs h=>?_) (fun hs h=>?_)
   ·
    refine sk [2,3,17,18] hs j ?_
    exact ⟨true,([]),Rw,ef hs,ef hs,hO,h⟩
   refine rl [2,3,17,18] hs j ?_
   exact ⟨(decide (a0.kind=3)),([]),Rw,ef hs,ef hs,hO,h⟩
  ·
   clear h;rintro e st ⟨c,Xk11,Rk11,rfl,rfl,hO,h⟩
   rw [Zb7] at h
   refine td hN o p a hO ?_
   refine cnd h hs (fun hs h=>?_) (fun hs h=>?_)
   ·
    refine rc 2 [4] hs ?_;intro K20 u
    refine Zac _ (Zps w0 _ _ _ a1.int a0.min a0.max) (hv hs) ?_
    refine ne hs u ?_
    clear u
    exact rt h hs a hO
   refine rg [2,3,17,37] hs ?_
   refine cnd h hs (fun hs h=>?_) (fun hs h=>?_)
   ·
    apply Zaa;intro K23 aa
    refine rg [2,3,42] hs ?_
    refine cnd h hs (fun hs h=>?_) (fun hs h=>?_)
    ·
     obtain ⟨bb,aj,h⟩:=bind_some h
     refine rc 2 [4] hs ?_;intro K26 x
     refine Zac _ (ZcI w0 n _ _ _ a0.words a1.text _ aj) (hv hs) ?_
     refine ne hs x ?_
     clear x
     exact rt h hs a hO
    refine sk [2,3] hs aa ?_
    clear aa
    refine rc 2 [4] hs ?_;intro K28 v
    refine Zac _ (Zps w0 _ _ _ ((a1.text.size:Int)) a0.min a0.max) (hv hs) ?_
    refine ne hs v ?_
    clear v
    exact rt h hs a hO
   refine rg [2,3,17,56] hs ?_
   refine cnd h hs (fun hs h=>?_) (fun hs h=>?_)
   ·
    refine rc 2 [4] hs ?_;intro K31 ab
    refine Zac _ (Zps w0 _ _ _ ((a1.text.size:Int)) a0.min a0.max) (hv hs) ?_
    refine ne hs ab ?_
    clear ab
    exact rt h hs a hO
   refine rg [2,3,17,66] hs ?_
   refine cnd h hs (fun hs h=>?_) (fun hs h=>?_)
   ·
    apply Zaa;intro K34 k
    rcases Bool.eq_false_or_eq_true (decide (a0.min≤((a1.list.length:Int)))&&decide (((a1.list.length:Int))≤a0.max)) with hf35 | hf35
    ·
     replace h:=Za9 h hf35
     obtain ⟨bc,ap,h⟩:=bind_some h
     have hs:=And.intro hf35 hs
     refine rk 3 [4] hs ?_
     refine Zac _ (Zps w0 _ _ _ ((a1.list.length:Int)) a0.min a0.max) (hv hs) ?_
     refine nc hs ?_
     refine Zac _ (ZhH w0 n _ _ _ a1.list 183 [.box B.length 0] (fun (x0:Vl)=>ZhX rec x0 a0) (fun x0 r hx B' ai ah a2=>by exact Zuw w0 rec ih _ _ _ x0 _ a0 (ZcE ah (ef hs)) _ hx) _ ap) (hv hs) ?_
     refine ne hs k ?_
     clear k
     exact rt h hs a hO
    ·
     replace h:=Zba h hf35
     have hs:=And.intro hf35 hs
     refine rk 3 [4] hs ?_
     refine Zac _ (Zps w0 _ _ _ ((a1.list.length:Int)) a0.min a0.max) (hv hs) ?_
     refine nc hs ?_
     refine Zau ?_
     refine ne hs k ?_
     clear k
     exact rt h hs a hO
   refine rg [2,3,17,83] hs ?_
   refine cnd h hs (fun hs h=>?_) (fun hs h=>?_)
   ·
    obtain ⟨ax,au,h⟩:=bind_some h
    refine rc 2 [3,5,6] hs ?_;intro K39 t
    refine Zac _ (ZlM w0 n _ _ _ a0 a1.text _ au) (hv hs) ?_
    refine ne hs t ?_
    clear t
    apply Zaa;intro K41 i
    rcases Bool.eq_false_or_eq_true (ax.2) with hf42 | hf42
    ·
     replace h:=Za9 h hf42
     obtain ⟨a5,a6,a3,l,h⟩:=ix avV h
     have af:(a1.list.map avV).getD 0 .junk=_:=l
     obtain ⟨ba,aq,h⟩:=bind_some h
     have hs:=And.intro hf42 hs
     have hs:=And.intro l hs
     have hs:=And.intro af hs
     refine dk 11 2 1 [4] hs mix ?_
     refine Zac _ (ih _ _ _ ax.1.2.2.2.1 a5 _ aq) (hv hs) ?_
     refine dn hs i ?_
     clear i
     exact rt h hs a hO
    ·
     replace h:=Zba h hf42
     have hs:=And.intro hf42 hs
     refine dk 11 2 1 [4] hs mix ?_
     refine Zau ?_
     refine dn hs i ?_
     clear i
     exact rt h hs a hO
   refine rg [2,3,102] hs ?_
   refine cnd h hs (fun hs h=>?_) (fun hs h=>?_)
   ·
    refine Zak (fun e st=>Ck e st B Rw L [(2,true,.box B.length 0),(3,true,.box (B.length+1) 0)] [a0.cs,a1.cs] [] (Zk2 rec n a0 a1  = some r)) ?_ ?_
    ·
     intro K49 am
     refine rg [2,3,105,106,107] hs ?_
     apply Zad
     refine Zao (fun m e st=>∃ (b:Int),Ck e st B Rw L [(2,true,.box B.length 0),(3,true,.box (B.length+1) 0),(105,true,.list (a1.fields.map avF) .none),(106,true,.val (.int .i64 ((a1.fields.length:Int)))),(107,true,.val (.int .i64 b))] [a0.cs,a1.cs] [] (Zga rec n a0 a1 m b=some r)) n ⟨0,([]),Rk11,ef hs,ef hs,hO,h⟩ ?_
     rintro ml51 e st ⟨b,Xl51,Rl51,rfl,rfl,hO,h⟩ Ul51 Vl51
     cases ml51 with
     | zero=>cases h
     | succ ml51 =>
     rw [Zga] at h
     refine td hN o p a hO ?_
     refine rg [2,3,105,106,107,108] hs ?_
     apply Zaa;intro K53 z
     refine cnd h hs (fun hs h=>?_) (fun hs h=>?_)
     rotate_left
     ·
      refine sx [2,3] hs am ?_
      exact ⟨([]),Rl51,ef hs,ef hs,hO,h⟩
     refine sk [2,3,105,106,107] hs z ?_
     clear z
     apply Zaa;intro K55 y
     apply Zad
     obtain ⟨q,ak,h⟩:=bind_some h
     obtain ⟨ay,az,ag⟩:=Zan ak
     have ae:=Zap (f:=avF) ag
     have hs:=And.intro ae hs
     refine rg [2,3,8,105,106,107] hs ?_
     obtain ⟨d,ao,h⟩:=bind_some h
     refine rc 2 [2,3,8,9,10,105,106,107] hs ?_;intro K58 w
     refine Zac _ (ZlM w0 n _ _ _ a0 q.1 _ ao) (hv hs) ?_
     refine ne hs w ?_
     clear w
     apply Zaa;intro K60 g
     rcases Bool.eq_false_or_eq_true (!d.2) with hf61 | hf61
     ·
      replace h:=Za9 h hf61
      have hs:=And.intro hf61 hs
      refine rk 2 [2,3,105,106,107,127] hs ?_
      refine Zau ?_
      refine ne hs g ?_
      clear g
      refine ZaQ true ev (ef hs) (fun hb62=>?_) (fun hb62=>by cases hb62)
      refine rg [4] hs ?_
      exact rt h hs a hO
     ·
      replace h:=Zba h hf61
      obtain ⟨a9,ar,h⟩:=bind_some h
      have hs:=And.intro hf61 hs
      refine rk 2 [2,3,105,106,107,127] hs ?_
      refine Zac _ (ih _ _ _ d.1.2.2.2.1 q.2 _ ar) (hv hs) ?_
      refine ne hs g ?_
      clear g
      refine cnd h hs (fun hs h=>?_) (fun hs h=>?_)
      ·
       refine rg [4] hs ?_
       exact rt h hs a hO
      refine sk [2,3,105,106,107] hs y ?_
      clear y
      obtain ⟨a7,h⟩:=Zab h
      refine rl [2,3,105,106,107] hs (fun e s=>Vl51 ml51 e s (Nat.lt_succ_self _)) ?_
      exact ⟨(b+1),([.val (.string q.1)::(q.2.cs),.val (.int .i64 d.1.1)::(.val (.string d.1.2.1)::(.val (.int .i64 d.1.2.2.1)::((d.1.2.2.2.1.cs)++([.list (d.1.2.2.2.2.map avV) .none]))))]),Rl51,ef hs,ef hs,hO,h⟩
    ·
     clear h;rintro e st ⟨Xk48,Rk48,rfl,rfl,hO,h⟩
     rw [Zk2] at h
     refine td hN o p a hO ?_
     obtain ⟨a8,aw,h⟩:=bind_some h
     refine rc 2 [4] hs ?_;intro K68 ad
     refine Zac _ (ZbF w0 n _ _ _ a0.fields 184 [.box (B.length+1) 0] (fun (x0:Int × ByteArray × Int × Ty × List Vl)=>ZhI n x0 a1) (fun x0 r hx B' ai ah a2=>by exact Zt4 w0 n _ _ _ x0 _ a1 (ZcE ah (ef hs)) _ hx) _ aw) (hv hs) ?_
     refine ne hs ad ?_
     clear ad
     exact rt h hs a hO
   refine sk [] hs a4 ?_
   exact ⟨([]),Rk11,ef hs,ef hs,hO,h⟩
 ·
  clear h;rintro e st ⟨Xk7,Rk7,rfl,rfl,hO,h⟩
  rw [Zmr] at h
  refine td hN o p a hO ?_
  refine rg [4] hs ?_
  exact rt h hs a hO
theorem ZsF (w0:World):∀ n:Nat,ZrZ w0 (Zfs n)
 | 0=>fun _ _ _ _ _ _ h=>(nomatch h)
 | n+1=>Zuq w0 (Zfs n) (ZsF w0 n) n
def ZgP (n:Nat) (a0:Ty) (a1:Vl):Option Bool :=
 (Zc5 n a1).bind fun y3 =>
 if decide (y3=0) then
  (Zfs n a0 a1).bind fun y5 =>
  some (y5)
 else
  some (false)
theorem Zrl (w0:World) (hT:Lib.Utf8Tabs 0 1 w0) (n:Nat) (B:List (List AV)) (Rw:List RowA) (L:List LoopA) (a0:Ty) (a1:Vl) (r:Bool) (h:ZgP n a0 a1=some r) :
  ACalls Tryz.prog w0 59 [.agg (a0.cs),.agg (a1.cs)] ⟨B,Rw,L⟩ fun x st=>x = .val (.bool r)∧st=⟨B,Rw,L⟩:=by
 rw [ZgP] at h
 refine hd [.tmp 4] Tryz.func59 Tryz.ntmps59 fun M0 W0 hN e f a hu hO hs=>?_
 simp only [Zaq]
 refine rg [2,3] hs ?_
 apply Zaa;intro K2 b
 obtain ⟨y3,c,h⟩:=bind_some h
 rcases Bool.eq_false_or_eq_true (decide (y3=0)) with hf4 | hf4
 ·
  replace h:=Za9 h hf4
  obtain ⟨y5,d,h⟩:=bind_some h
  have hs:=And.intro hf4 hs
  refine rk 3 [4] hs ?_
  refine Zac _ (ZhJ w0 hT n _ _ _ a1 _ c) (hv hs) ?_
  refine nc hs ?_
  refine Zac _ (ZsF w0 n _ _ _ a0 a1 _ d) (hv hs) ?_
  refine ne hs b ?_
  clear b
  exact rt h hs a hO
 ·
  replace h:=Zba h hf4
  have hs:=And.intro hf4 hs
  refine rk 3 [4] hs ?_
  refine Zac _ (ZhJ w0 hT n _ _ _ a1 _ c) (hv hs) ?_
  refine nc hs ?_
  refine Zau ?_
  refine ne hs b ?_
  clear b
  exact rt h hs a hO
def Zbb (a0:Int × ByteArray × Int × Ty × List Vl) (a1:Int × ByteArray × Int × Ty × List Vl):Bool :=
 (sEq a0.2.1 a1.2.1)||(decide (a0.1=a1.1))
theorem ZrA (w0:World) (B:List (List AV)) (Rw:List RowA) (L:List LoopA) (a0:Int × ByteArray × Int × Ty × List Vl) (la1:Nat) (a1:Int × ByteArray × Int × Ty × List Vl) (hla1:B[la1]? = some (.val (.int .i64 a1.1)::(.val (.string a1.2.1)::(.val (.int .i64 a1.2.2.1)::((a1.2.2.2.1.cs)++([.list (a1.2.2.2.2.map avV) .none])))))) (r:Bool) (h:Zbb a0 a1=r) :
  ACalls Tryz.prog w0 227 [.agg (.val (.int .i64 a0.1)::(.val (.string a0.2.1)::(.val (.int .i64 a0.2.2.1)::((a0.2.2.2.1.cs)++([.list (a0.2.2.2.2.map avV) .none]))))),.box la1 0] ⟨B,Rw,L⟩ fun x st=>x = .val (.bool r)∧st=⟨B,Rw,L⟩:=by
 rw [Zbb] at h
 refine hd [.tmp 3] Tryz.func227 Tryz.ntmps227 fun M0 W0 hN c d a hu hO hs=>?_
 simp only [Zaq]
 have b:=(List.getElem?_eq_some_iff.1 hla1).1
 have hs:=And.intro (Zag hla1) hs
 refine rg [1,2] hs ?_
 refine rg [3] hs ?_
 exact rT h hs a hO
theorem ZpD (w0:World) (B:List (List AV)) (Rw:List RowA) (L:List LoopA) (a0:Int × ByteArray × Int × Ty × List Vl) (la1:Nat) (a1:Int × ByteArray × Int × Ty × List Vl) (hla1:B[la1]? = some (.val (.int .i64 a1.1)::(.val (.string a1.2.1)::(.val (.int .i64 a1.2.2.1)::((a1.2.2.2.1.cs)++([.list (a1.2.2.2.2.map avV) .none])))))) :
  ACalls Tryz.prog w0 227 [.agg (.val (.int .i64 a0.1)::(.val (.string a0.2.1)::(.val (.int .i64 a0.2.2.1)::((a0.2.2.2.1.cs)++([.list (a0.2.2.2.2.map avV) .none]))))),.box la1 0] ⟨B,Rw,L⟩ fun x st=>x = .val (.bool (Zbb a0 a1))∧st=⟨B,Rw,L⟩:=ZrA w0 B Rw L a0 la1 a1 hla1 _ rfl
def Zi7 (n:Nat) (a0:Ty) (a1:Int):Option Int :=
 (idx a0.fields a1).bind fun x3 =>
 if x3.2.1.size≤maxLen then
  if !(Zei x3.2.1) then
   some (12)
  else
   if !(decide (1≤x3.1)&&decide (x3.1≤9999)) then
    some (2)
   else
    if 0≤0∧0≤a1∧a1≤(a0.fields.length:Int) then
     (Zas n (a0.fields.take a1.toNat) (fun (x0:Int × ByteArray × Int × Ty × List Vl)=>some (Zbb x0 x3))).bind fun y14 =>
     if y14 then
      some (7)
     else
      if (!(decide (1≤x3.2.2.1)&&decide (x3.2.2.1≤3)))||((decide (a0.kind=10))&&(!(decide (x3.2.2.1=1)))) then
       some (11)
      else
       if (decide (x3.2.2.1=3))&&(decide (((x3.2.2.2.2.length:Int))=0)) then
        some (4)
       else
        if (decide (1<((x3.2.2.2.2.length:Int))))||((!(decide (x3.2.2.1=3)))&&(decide (0<((x3.2.2.2.2.length:Int))))) then
         some (3)
        else
         some (0)
    else none
 else none
theorem ZtK (w0:World) (n:Nat) (B:List (List AV)) (Rw:List RowA) (L:List LoopA) (a0:Ty) (a1:Int) (r:Int) (h:Zi7 n a0 a1=some r) :
  ACalls Tryz.prog w0 195 [.agg (a0.cs),.val (.int .i64 a1)] ⟨B,Rw,L⟩ fun x st=>x = .val (.int .i64 r)∧st=⟨B,Rw,L⟩:=by
 rw [Zi7] at h
 refine hd [.tmp 4] Tryz.func195 Tryz.ntmps195 fun M0 W0 hN s v a hu hO hs=>?_
 simp only [Zaq]
 refine rg [1,2] hs ?_
 obtain ⟨x3,l,h⟩:=bind_some h
 obtain ⟨p,o,g⟩:=Zan l
 have j:=Zap (f:=ZeF) g
 have hs:=And.intro j hs
 refine rg [1,2,5] hs ?_
 apply Zaa;intro K4 d
 apply Zad
 obtain ⟨k,h⟩:=Zab h
 refine rc 2 [1,2,5,11] hs ?_;intro K5 i
 refine Zac _ (Zno w0 _ _ _ x3.2.1 k) (hv hs) ?_
 refine ne hs i ?_
 clear i
 refine cnd h hs (fun hs h=>?_) (fun hs h=>?_)
 ·
  refine rg [4] hs ?_
  exact rt h hs a hO
 refine rc 2 [1,2,5,16] hs ?_;intro K9 e
 refine Zac _ (Zps w0 _ _ _ x3.1 1 9999) (hv hs) ?_
 refine ne hs e ?_
 clear e
 refine cnd h hs (fun hs h=>?_) (fun hs h=>?_)
 ·
  refine rg [4] hs ?_
  exact rt h hs a hO
 obtain ⟨q,h⟩:=Zab h
 obtain ⟨t,hy14,h⟩:=bind_some h
 refine rc 2 [2,5,21] hs ?_;intro K12 b
 refine Zac _ (ZbF w0 n _ _ _ (a0.fields.take a1.toNat) 227 [.box (B.length+1) 0] (fun (x0:Int × ByteArray × Int × Ty × List Vl)=>some (Zbb x0 x3)) (fun x0 r hx B' m hB' u=>by cases hx;exact ZpD w0 _ _ _ x0 _ x3 (ZcE hB' (ef hs))) _ hy14) (hv hs) ?_
 refine ne hs b ?_
 clear b
 refine cnd h hs (fun hs h=>?_) (fun hs h=>?_)
 ·
  refine rg [4] hs ?_
  exact rt h hs a hO
 refine rc 2 [5,28] hs ?_;intro K17 c
 refine Zac _ (Zps w0 _ _ _ x3.2.2.1 1 3) (hv hs) ?_
 refine ne hs c ?_
 clear c
 refine cnd h hs (fun hs h=>?_) (fun hs h=>?_)
 ·
  refine rg [4] hs ?_
  exact rt h hs a hO
 refine rg [5,43] hs ?_
 refine cnd h hs (fun hs h=>?_) (fun hs h=>?_)
 ·
  refine rg [4] hs ?_
  exact rt h hs a hO
 refine rg [53] hs ?_
 refine cnd h hs (fun hs h=>?_) (fun hs h=>?_)
 ·
  refine rg [4] hs ?_
  exact rt h hs a hO
 refine sk [] hs d ?_
 clear d
 refine rg [4] hs ?_
 exact rt h hs a hO
def Zf3  (x5_k4:Bool):Int :=
 if x5_k4 then
  3
 else
  0
def Zii (a0:Ty) (a1:Lim):Int :=
 if (!a1.bounds)&&((!(decide (a0.min=0)))||(!(decide (a0.max=0)))) then
  Zf3  true
 else
  if (!a1.scale)&&(!(decide (a0.scale=0))) then
   Zf3  true
  else
   if (!a1.text)&&(decide (0<((a0.words.length:Int)))) then
    Zf3  true
   else
    if (!a1.list)&&(decide (0<((a0.elem.length:Int)))) then
     Zf3  true
    else
     Zf3  ((!a1.fields)&&(decide (0<((a0.fields.length:Int)))))
theorem ZuQ (w0:World) (B:List (List AV)) (Rw:List RowA) (L:List LoopA) (a0:Ty) (a1:Lim) (r:Int) (h:Zii a0 a1=r) :
  ACalls Tryz.prog w0 193 [.agg (a0.cs),.agg (.val (.string a1.name)::(.val (.int .i64 a1.low)::(.val (.int .i64 a1.high)::(.val (.bool a1.bounds)::(.val (.bool a1.scale)::(.val (.bool a1.text)::(.val (.bool a1.list)::([.val (.bool a1.fields)]))))))))] ⟨B,Rw,L⟩ fun x st=>x = .val (.int .i64 r)∧st=⟨B,Rw,L⟩:=by
 rw [Zii] at h
 refine hd [.tmp 4] Tryz.func193 Tryz.ntmps193 fun M0 W0 hN f g a hu hO hs=>?_
 simp only [Zaq]
 refine rg [2,3] hs ?_
 apply Zaa;intro K2 d
 apply Zad
 refine Zak (fun e st=>∃ (b:Bool),Ck e st B Rw L [(5,true,.val (.bool b))] [a0.cs,.val (.string a1.name)::(.val (.int .i64 a1.low)::(.val (.int .i64 a1.high)::(.val (.bool a1.bounds)::(.val (.bool a1.scale)::(.val (.bool a1.text)::(.val (.bool a1.list)::([.val (.bool a1.fields)])))))))] [] (Zf3  b=r)) ?_ ?_
 ·
  intro K5 c
  refine rg [2,3,5] hs ?_
  refine cnd h hs (fun hs h=>?_) (fun hs h=>?_)
  ·
   refine sk [5] hs c ?_
   exact ⟨true,([]),Rw,ef hs,ef hs,hO,h⟩
  refine rg [2,3,5] hs ?_
  refine cnd h hs (fun hs h=>?_) (fun hs h=>?_)
  ·
   refine sk [5] hs c ?_
   exact ⟨true,([]),Rw,ef hs,ef hs,hO,h⟩
  refine rg [2,3,5] hs ?_
  refine cnd h hs (fun hs h=>?_) (fun hs h=>?_)
  ·
   refine sk [5] hs c ?_
   exact ⟨true,([]),Rw,ef hs,ef hs,hO,h⟩
  refine rg [2,3,5] hs ?_
  refine cnd h hs (fun hs h=>?_) (fun hs h=>?_)
  ·
   refine sk [5] hs c ?_
   exact ⟨true,([]),Rw,ef hs,ef hs,hO,h⟩
  refine rl [5] hs c ?_
  exact ⟨((!a1.fields)&&(decide (0<((a0.fields.length:Int))))),([]),Rw,ef hs,ef hs,hO,h⟩
 ·
  clear h;rintro e st ⟨b,Xk4,Rk4,rfl,rfl,hO,h⟩
  rw [Zf3] at h
  refine td hN f g a hO ?_
  refine cnd h hs (fun hs h=>?_) (fun hs h=>?_)
  ·
   refine rg [4] hs ?_
   exact rT h hs a hO
  refine sk [] hs d ?_
  clear d
  refine rg [4] hs ?_
  exact rT h hs a hO
theorem Zuu (w0:World) (B:List (List AV)) (Rw:List RowA) (L:List LoopA) (a0:Ty) (a1:Lim) :
  ACalls Tryz.prog w0 193 [.agg (a0.cs),.agg (.val (.string a1.name)::(.val (.int .i64 a1.low)::(.val (.int .i64 a1.high)::(.val (.bool a1.bounds)::(.val (.bool a1.scale)::(.val (.bool a1.text)::(.val (.bool a1.list)::([.val (.bool a1.fields)]))))))))] ⟨B,Rw,L⟩ fun x st=>x = .val (.int .i64 (Zii a0 a1))∧st=⟨B,Rw,L⟩:=ZuQ w0 B Rw L a0 a1 _ rfl
def Zf4  : ((List Lim)) :=
 [Lim.mk ((⟨#[]⟩:ByteArray)) 0 0 false false false false false,Lim.mk ((⟨#[98,111,111,108]⟩:ByteArray)) 0 0 false false false false false,Lim.mk ((⟨#[105,110,116]⟩:ByteArray)) ((-999999999999999)) 999999999999999 true false false false false,Lim.mk ((⟨#[100,101,99,105,109,97,108]⟩:ByteArray)) ((-999999999999999)) 999999999999999 true true false false false,Lim.mk ((⟨#[116,101,120,116]⟩:ByteArray)) 0 1024 true false true false false,Lim.mk ((⟨#[98,121,116,101,115]⟩:ByteArray)) 0 1024 true false false false false,Lim.mk ((⟨#[100,97,116,101]⟩:ByteArray)) ((-719162)) 2932896 true false false false false,Lim.mk ((⟨#[116,105,109,101]⟩:ByteArray)) ((-62135596800000)) 253402300799999 true false false false false,Lim.mk ((⟨#[108,105,115,116]⟩:ByteArray)) 0 256 true false false true false,Lim.mk ((⟨#[114,101,99,111,114,100]⟩:ByteArray)) 0 0 false false false false true,Lim.mk ((⟨#[118,97,114,105,97,110,116]⟩:ByteArray)) 0 0 false false false false true]
theorem Zuf (w0:World) (B:List (List AV)) (Rw:List RowA) (L:List LoopA)  (r:(List Lim)) (h:Zf4  = r) :
  ACalls Tryz.prog w0 192 [] ⟨B,Rw,L⟩ fun x st=>x = .agg (r.flatMap fun x=>(ZCr x).cells)∧st=⟨B,Rw,L⟩:=by
 rw [Zf4] at h
 refine hd [.cell 0 185] Tryz.func192 Tryz.ntmps192 fun M0 W0 hN b c a hu hO hs=>?_
 simp only [Zaq]
 refine rg [0] hs ?_
 refine rg [0] (al hs) ?_
 exact rT h hs a hO
theorem ZrP (w0:World) (B:List (List AV)) (Rw:List RowA) (L:List LoopA)  :
  ACalls Tryz.prog w0 192 [] ⟨B,Rw,L⟩ fun x st=>x = .agg ((Zf4 ).flatMap fun x=>(ZCr x).cells)∧st=⟨B,Rw,L⟩:=Zuf w0 B Rw L  _ rfl
def ZgD (a0:ByteArray):Vl :=
 Vl.mk 4 0 0 a0 ([]) ([])
theorem Zvn (w0:World) (B:List (List AV)) (Rw:List RowA) (L:List LoopA) (a0:ByteArray) (r:Vl) (h:ZgD a0=r) :
  ACalls Tryz.prog w0 168 [.val (.string a0)] ⟨B,Rw,L⟩ fun x st=>x = .agg (r.cs)∧st=⟨B,Rw,L⟩:=by
 rw [ZgD] at h
 refine hd [.cell 2 46] Tryz.func168 Tryz.ntmps168 fun M0 W0 hN b c a hu hO hs=>?_
 simp only [Zaq]
 refine rg [0,2] hs ?_
 refine rg [2] hs ?_
 exact rT h hs a hO
theorem Zot (w0:World) (B:List (List AV)) (Rw:List RowA) (L:List LoopA) (a0:ByteArray) :
  ACalls Tryz.prog w0 168 [.val (.string a0)] ⟨B,Rw,L⟩ fun x st=>x = .agg ((ZgD a0).cs)∧st=⟨B,Rw,L⟩:=Zvn w0 B Rw L a0 _ rfl
def ZiI (n:Nat)  : Option Int :=
 some (0)
def ZdX (n:Nat) (a0:Ty):Nat→Int→Option Int
 | 0,_=>none
 | m+1,x23_l13 =>
  if decide (x23_l13<((a0.words.length:Int))) then
   (idx a0.words x23_l13).bind fun x19 =>
   (Zc5 n (ZgD x19)).bind fun y22 =>
   if !(decide (y22=0)) then
    some (y22)
   else
    if decide (0<x23_l13) then
     if I64 (x23_l13-1) then
      (idx a0.words (x23_l13-1)).bind fun x30 =>
      if sEq x19 x30 then
       some (7)
      else
       if I64 (x23_l13-1) then
        if sLt x19 x30 then
         some (24)
        else
         if I64 (x23_l13+1) then
          (ZdX n a0 m) (x23_l13+1)
         else none
       else none
     else none
    else
     if I64 (x23_l13+1) then
      (ZdX n a0 m) (x23_l13+1)
     else none
  else
   ZiI n 
def ZjA (n:Nat) (a0:Ty):Option Int :=
 if (!(decide (a0.min=0)))||(!(decide (a0.max=0))) then
  some (3)
 else
  if decide (64<((a0.words.length:Int))) then
   some (9)
  else
   ZdX n a0 n 0
theorem ZtR (w0:World) (hT:Lib.Utf8Tabs 0 1 w0) (n:Nat) (B:List (List AV)) (Rw:List RowA) (L:List LoopA) (a0:Ty) (r:Int) (h:ZjA n a0=some r) :
  ACalls Tryz.prog w0 194 [.agg (a0.cs)] ⟨B,Rw,L⟩ fun x st=>x = .val (.int .i64 r)∧st=⟨B,Rw,L⟩:=by
 rw [ZjA] at h
 refine hd [.tmp 2] Tryz.func194 Tryz.ntmps194 fun M0 W0 hN u w b hu hO hs=>?_
 simp only [Zaq]
 refine rg [1] hs ?_
 apply Zaa;intro K2 y
 apply Zad
 refine rg [1,6] hs ?_
 refine cnd h hs (fun hs h=>?_) (fun hs h=>?_)
 ·
  refine rg [2] hs ?_
  exact rt h hs b hO
 refine rg [1,15] hs ?_
 refine cnd h hs (fun hs h=>?_) (fun hs h=>?_)
 ·
  refine rg [2] hs ?_
  exact rt h hs b hO
 refine sk [1] hs y ?_
 clear y
 refine Zak (fun e st=>Ck e st B Rw L [] [a0.cs] [] (ZiI n  = some r)) ?_ ?_
 ·
  intro K11 z
  refine rg [1,21,22,23] hs ?_
  apply Zad
  refine Zao (fun m e st=>∃ (a:Int),Ck e st B Rw L [(1,true,.box B.length 0),(21,true,.list (a0.words.map avS) .none),(22,true,.val (.int .i64 ((a0.words.length:Int)))),(23,true,.val (.int .i64 a))] [a0.cs] [] (ZdX n a0 m a=some r)) n ⟨0,([]),Rw,ef hs,ef hs,hO,h⟩ ?_
  rintro ml13 e st ⟨a,Xl13,Rl13,rfl,rfl,hO,h⟩ Ul13 Vl13
  cases ml13 with
  | zero=>cases h
  | succ ml13 =>
  rw [ZdX] at h
  refine td hN u w b hO ?_
  refine rg [1,21,22,23,24] hs ?_
  apply Zaa;intro K15 k
  refine cnd h hs (fun hs h=>?_) (fun hs h=>?_)
  rotate_left
  ·
   refine sx [] hs z ?_
   exact ⟨([]),Rl13,ef hs,ef hs,hO,h⟩
  refine sk [1,21,22,23] hs k ?_
  clear k
  apply Zaa;intro K17 c
  apply Zad
  obtain ⟨q,v,h⟩:=bind_some h
  obtain ⟨ae,ad,p⟩:=Zan v
  have l:=Zap (f:=avS) p
  have hs:=And.intro l hs
  refine rg [1,3,4,21,22,23] hs ?_
  apply Zaa;intro K20 i
  obtain ⟨aj,t,h⟩:=bind_some h
  refine rc 3 [1,3,4,5,21,22,23] hs ?_;intro K21 j
  refine Zac _ (Zot w0 _ _ _ q) (hv hs) ?_
  refine nc hs ?_
  refine Zac _ (ZhJ w0 hT n _ _ _ (ZgD q) _ t) (hv hs) ?_
  refine ne hs j ?_
  clear j
  refine rg [1,3,4,5,21,22,23,32] hs ?_
  refine cnd h hs (fun hs h=>?_) (fun hs h=>?_)
  ·
   refine rg [2] hs ?_
   exact rt h hs b hO
  refine sk [1,3,4,21,22,23] hs i ?_
  clear i
  apply Zaa;intro K26 g
  apply Zaa;intro K27 d
  rcases Bool.eq_false_or_eq_true (decide (0<a)) with hf28 | hf28
  ·
   replace h:=Za9 h hf28
   obtain ⟨ag,h⟩:=Zab h
   obtain ⟨ak,aa,ab,o,h⟩:=ix avS h
   have hs:=And.intro hf28 hs
   have hs:=And.intro o hs
   refine rl [1,3,4,21,22,23,45] hs d ?_
   clear d
   refine cnd h hs (fun hs h=>?_) (fun hs h=>?_)
   ·
    refine rg [2] hs ?_
    exact rt h hs b hO
   refine sk [1,3,4,21,22,23] hs g ?_
   clear g
   obtain ⟨af,h⟩:=Zab h
   refine rg [1,21,22,23,57] hs ?_
   refine cnd h hs (fun hs h=>?_) (fun hs h=>?_)
   ·
    refine rg [2] hs ?_
    exact rt h hs b hO
   refine sk [1,21,22,23] hs c ?_
   clear c
   obtain ⟨ah,h⟩:=Zab h
   refine rl [1,21,22,23] hs (fun e s=>Vl13 ml13 e s (Nat.lt_succ_self _)) ?_
   exact ⟨(a+1),([]),Rl13,ef hs,ef hs,hO,h⟩
  ·
   replace h:=Zba h hf28
   have hs:=And.intro hf28 hs
   refine rl [1,3,4,21,22,23,45] hs d ?_
   clear d
   refine ZaQ false ev (ef hs) (fun hb38=>by cases hb38) (fun hb38=>?_)
   refine sk [1,3,4,21,22,23] hs g ?_
   clear g
   refine rg [1,21,22,23,57] hs ?_
   refine ZaQ false ev (ef hs) (fun hb40=>by cases hb40) (fun hb40=>?_)
   refine sk [1,21,22,23] hs c ?_
   clear c
   obtain ⟨ai,h⟩:=Zab h
   refine rl [1,21,22,23] hs (fun e s=>Vl13 ml13 e s (Nat.lt_succ_self _)) ?_
   exact ⟨(a+1),([]),Rl13,ef hs,ef hs,hO,h⟩
 ·
  clear h;rintro e st ⟨Xk10,Rk10,rfl,rfl,hO,h⟩
  rw [ZiI] at h
  refine td hN u w b hO ?_
  refine rg [2] hs ?_
  exact rt h hs b hO
def ZmR (n:Nat)  : Option Int :=
 some (0)
def Zgf (n:Nat) (a0:Ty):Nat→Int→Option Int
 | 0,_=>none
 | m+1,x106_l48 =>
  if decide (x106_l48<((a0.fields.length:Int))) then
   (Zi7 n a0 x106_l48).bind fun y55 =>
   if !(decide (y55=0)) then
    some (y55)
   else
    if I64 (x106_l48+1) then
     (Zgf n a0 m) (x106_l48+1)
    else none
  else
   ZmR n 
def Zgc (n:Nat) (a0:Ty) (x69_k32:Bool):Option Int :=
 if x69_k32 then
  some (4)
 else
  if (decide (a0.kind=8))&&(decide (1<((a0.elem.length:Int)))) then
   some (3)
  else
   if decide (64<((a0.fields.length:Int))) then
    some (9)
   else
    Zgf n a0 n 0
def ZhV (n:Nat) (a0:Ty):Option Int :=
 if (decide (a0.kind=8))&&(decide (((a0.elem.length:Int))=0)) then
  Zgc n a0 true
 else
  Zgc n a0 ((decide (a0.kind=10))&&(decide (((a0.fields.length:Int))=0)))
def Zi0 (n:Nat) (a0:Ty) (x37_k24:Bool):Option Int :=
 if x37_k24 then
  some (2)
 else
  ZhV n a0 
def ZmX (n:Nat) (a0:Ty):Option Int :=
 if !(decide (1≤a0.kind)&&decide (a0.kind≤10)) then
  some (11)
 else
  (idx (Zf4 ) a0.kind).bind fun x7 =>
  if !(decide ((Zii a0 x7)=0)) then
   some (Zii a0 x7)
  else
   if (decide (a0.kind=4))&&(decide (0<((a0.words.length:Int)))) then
    (ZjA n a0).bind fun y19 =>
    if !(decide (y19=0)) then
     some (y19)
    else
     ZhV n a0 
   else
    if x7.bounds&&(((decide (a0.max<a0.min))||(decide (a0.min<x7.low)))||(decide (x7.high<a0.max))) then
     Zi0 n a0 true
    else
     Zi0 n a0 (x7.scale&&(!(decide (0≤a0.scale)&&decide (a0.scale≤12))))
theorem Zw8 (w0:World) (hT:Lib.Utf8Tabs 0 1 w0) (n:Nat) (B:List (List AV)) (Rw:List RowA) (L:List LoopA) (a0:Ty) (r:Int) (h:ZmX n a0=some r) :
  ACalls Tryz.prog w0 135 [.agg (a0.cs)] ⟨B,Rw,L⟩ fun x st=>x = .val (.int .i64 r)∧st=⟨B,Rw,L⟩:=by
 rw [ZmX] at h
 refine hd [.tmp 2] Tryz.func135 Tryz.ntmps135 fun M0 W0 hN k l a hu hO hs=>?_
 simp only [Zaq]
 refine rg [1] hs ?_
 apply Zaa;intro K2 ak
 refine rc 2 [1,11] hs ?_;intro K3 ae
 refine Zac _ (Zps w0 _ _ _ a0.kind 1 10) (hv hs) ?_
 refine ne hs ae ?_
 clear ae
 refine cnd h hs (fun hs h=>?_) (fun hs h=>?_)
 ·
  have j:=hs.1
  refine rg [2] hs ?_
  exact rt h hs a hO
 have j:=hs.1
 refine sk [1] hs ak ?_
 clear ak
 apply Zaa;intro K6 ag
 obtain ⟨x7,ao,h⟩:=bind_some h
 obtain ⟨aq,aa,af⟩:=Zan ao
 have c:=Ze0 (f:=fun x=>(ZCr x).cells) 8 (fun _=>rfl) af
 have aj:(Zf4 ).length=11:=rfl
 first | rw [aj] at aa | simp only [List.length_cons,List.length_nil,Nat.reduceAdd,Nat.zero_add] at aa
 simp only [Ze5,ZeV,Ze4,ZeU,Ze2,Zeu,Zdc,Zc0,ZeX,Zb9,Zcc,Zc1,Zc8,Zc7,ZgW] at c
 apply ZfH mix [4,5] [1,3] kr (fun s=>∃ (X:List (List AV)) (v:List RowA),s=⟨B++([a0.cs]++X),v,L⟩) 3 (B.length+1)
 ·
  simp +decide only [go_sem,Nat.reduceAdd]
 ·
  rintro s ⟨X,v,rfl⟩
  refine ⟨2,?_⟩
  rw [Zae];simp +decide only [go_sem,Nat.reduceAdd,Zef,j,c]
  have hs:=And.intro c hs
  (repeat' apply And.intro)<;>first | refine Zac _ (ZrP w0 _ _ _ ) (hv hs) ?_ | exact cl
  rw [Zae];simp +decide only [go_sem,Nat.reduceAdd,j,c]
  (repeat' apply And.intro)<;>first | rfl | exact cl
 ·
  refine Good.mk [4] kr ⟨[],_,by first | rfl | simp only [List.append_nil,List.nil_append]⟩ ?_ ?_
  ·
   intro h;exact absurd h (by decide)
  ·
   intro i hi;simp only [List.mem_cons,List.not_mem_nil,or_false] at hi
   subst hi
   ·
    apply Zbu rfl rfl ev
    ·
     simp +decide only [go_sem,Nat.reduceAdd,Zdp,j,c]
     (repeat' apply And.intro)<;>first | rfl | exact cl
    ·
     simp +decide only [go_sem,Nat.reduceAdd,j,c]
     refine Good.mk [5] kr ⟨_,_,by first | rfl | simp only [List.append_nil,List.nil_append]⟩ ?_ ?_
     ·
      intro h;exact absurd h (by decide)
     ·
      intro i hi;simp only [List.mem_cons,List.not_mem_nil,or_false] at hi
      subst hi
      ·
       apply Zbu rfl rfl ev
       ·
        simp +decide only [go_sem,Nat.reduceAdd,Zdp,j,c]
        (repeat' apply And.intro)<;>first | rfl | exact cl
       ·
        simp +decide only [go_sem,Nat.reduceAdd,j,c]
        refine Good.mk [] kr ⟨_,_,by first | rfl | simp only [List.append_nil,List.nil_append]⟩ ?_ ?_
        ·
         intro _;apply ZbQ [1,3];first | (simp +decide only [go_sem,Nat.reduceAdd,j,c];done) | (simp +decide only [go_sem,Nat.reduceAdd,j,c];rfl)
        ·
         intro i hi;cases hi
 simp +decide only [go_sem,Nat.reduceAdd,j,c]
 (repeat' apply And.intro)<;>first | refine ag _ _ ?_ | exact cl
 clear ag
 apply Zaa;intro K8 ah
 have hs:=And.intro c hs
 refine rc 2 [1,3,4] hs ?_;intro K9 ab
 refine Zac _ (Zuu w0 _ _ _ a0 x7) (hv hs) ?_
 refine ne hs ab ?_
 clear ab
 refine rg [1,3,4,20] hs ?_
 refine cnd h hs (fun hs h=>?_) (fun hs h=>?_)
 ·
  refine rg [2] hs ?_
  exact rt h hs a hO
 refine sk [1,3] hs ah ?_
 clear ah
 refine Zak (fun e st=>Ck e st B Rw L [(1,true,.box B.length 0)] [a0.cs,.val (.string x7.name)::(.val (.int .i64 x7.low)::(.val (.int .i64 x7.high)::(.val (.bool x7.bounds)::(.val (.bool x7.scale)::(.val (.bool x7.text)::(.val (.bool x7.list)::([.val (.bool x7.fields)])))))))] [] (ZhV n a0  = some r)) ?_ ?_
 ·
  intro K15 w
  apply Zad
  refine rg [1,3,22] hs ?_
  refine cnd h hs (fun hs h=>?_) (fun hs h=>?_)
  ·
   obtain ⟨au,ad,h⟩:=bind_some h
   refine rc 2 [1,5] hs ?_;intro K18 t
   refine Zac _ (ZtR w0 hT n _ _ _ a0 _ ad) (hv hs) ?_
   refine ne hs t ?_
   clear t
   refine rg [1,5,35] hs ?_
   refine cnd h hs (fun hs h=>?_) (fun hs h=>?_)
   ·
    refine rg [2] hs ?_
    exact rt h hs a hO
   refine sk [1] hs w ?_
   exact ⟨([]),Rw,ef hs,ef hs,hO,h⟩
  refine Zak (fun e st=>∃ (g:Bool),Ck e st B Rw L [(1,true,.box B.length 0),(37,true,.val (.bool g))] [a0.cs,.val (.string x7.name)::(.val (.int .i64 x7.low)::(.val (.int .i64 x7.high)::(.val (.bool x7.bounds)::(.val (.bool x7.scale)::(.val (.bool x7.text)::(.val (.bool x7.list)::([.val (.bool x7.fields)])))))))] [] (Zi0 n a0 g=some r)) ?_ ?_
  ·
   intro K25 z
   refine rg [1,3,37] hs ?_
   refine cnd h hs (fun hs h=>?_) (fun hs h=>?_)
   ·
    refine sk [1,37] hs z ?_
    exact ⟨true,([]),Rw,ef hs,ef hs,hO,h⟩
   refine rk 2 [1,37] hs ?_
   refine Zdv _ (fun _=>Zps w0 _ _ _ a0.scale 0 12) (hv hs) ?_
   refine ne hs z ?_
   exact ⟨(x7.scale&&(!(decide (0≤a0.scale)&&decide (a0.scale≤12)))),([]),Rw,ef hs,ef hs,hO,h⟩
  ·
   clear h;rintro e st ⟨g,Xk24,Rk24,rfl,rfl,hO,h⟩
   rw [Zi0] at h
   refine td hN k l a hO ?_
   refine cnd h hs (fun hs h=>?_) (fun hs h=>?_)
   ·
    refine rg [2] hs ?_
    exact rt h hs a hO
   refine sk [1] hs w ?_
   exact ⟨([]),Rk24,ef hs,ef hs,hO,h⟩
 ·
  clear h;rintro e st ⟨Xk14,Rk14,rfl,rfl,hO,h⟩
  rw [ZhV] at h
  refine td hN k l a hO ?_
  apply Zaa;intro K30 q
  apply Zad
  refine Zak (fun e st=>∃ (d:Bool),Ck e st B Rw L [(1,true,.box B.length 0),(69,true,.val (.bool d))] [a0.cs,.val (.string x7.name)::(.val (.int .i64 x7.low)::(.val (.int .i64 x7.high)::(.val (.bool x7.bounds)::(.val (.bool x7.scale)::(.val (.bool x7.text)::(.val (.bool x7.list)::([.val (.bool x7.fields)])))))))] [] (Zgc n a0 d=some r)) ?_ ?_
  ·
   intro K33 o
   refine rg [1,69] hs ?_
   refine cnd h hs (fun hs h=>?_) (fun hs h=>?_)
   ·
    refine sk [1,69] hs o ?_
    exact ⟨true,([]),Rk14,ef hs,ef hs,hO,h⟩
   refine rl [1,69] hs o ?_
   exact ⟨((decide (a0.kind=10))&&(decide (((a0.fields.length:Int))=0))),([]),Rk14,ef hs,ef hs,hO,h⟩
  ·
   clear h;rintro e st ⟨d,Xk32,Rk32,rfl,rfl,hO,h⟩
   rw [Zgc] at h
   refine td hN k l a hO ?_
   refine cnd h hs (fun hs h=>?_) (fun hs h=>?_)
   ·
    refine rg [2] hs ?_
    exact rt h hs a hO
   refine rg [1,88] hs ?_
   refine cnd h hs (fun hs h=>?_) (fun hs h=>?_)
   ·
    refine rg [2] hs ?_
    exact rt h hs a hO
   refine rg [1,98] hs ?_
   refine cnd h hs (fun hs h=>?_) (fun hs h=>?_)
   ·
    refine rg [2] hs ?_
    exact rt h hs a hO
   refine sk [1] hs q ?_
   clear q
   refine Zak (fun e st=>Ck e st B Rw L [] [a0.cs,.val (.string x7.name)::(.val (.int .i64 x7.low)::(.val (.int .i64 x7.high)::(.val (.bool x7.bounds)::(.val (.bool x7.scale)::(.val (.bool x7.text)::(.val (.bool x7.list)::([.val (.bool x7.fields)])))))))] [] (ZmR n  = some r)) ?_ ?_
   ·
    intro K46 am
    refine rg [1,105,106] hs ?_
    apply Zad
    refine Zao (fun m e st=>∃ (b:Int),Ck e st B Rw L [(1,true,.box B.length 0),(105,true,.val (.int .i64 ((a0.fields.length:Int)))),(106,true,.val (.int .i64 b))] [a0.cs,.val (.string x7.name)::(.val (.int .i64 x7.low)::(.val (.int .i64 x7.high)::(.val (.bool x7.bounds)::(.val (.bool x7.scale)::(.val (.bool x7.text)::(.val (.bool x7.list)::([.val (.bool x7.fields)])))))))] [] (Zgf n a0 m b=some r)) n ⟨0,([]),Rk32,ef hs,ef hs,hO,h⟩ ?_
    rintro ml48 e st ⟨b,Xl48,Rl48,rfl,rfl,hO,h⟩ Ul48 Vl48
    cases ml48 with
    | zero=>cases h
    | succ ml48 =>
    rw [Zgf] at h
    refine td hN k l a hO ?_
    refine rg [1,105,106,107] hs ?_
    apply Zaa;intro K50 u
    refine cnd h hs (fun hs h=>?_) (fun hs h=>?_)
    rotate_left
    ·
     refine sx [] hs am ?_
     exact ⟨([]),Rl48,ef hs,ef hs,hO,h⟩
    refine sk [1,105,106] hs u ?_
    clear u
    apply Zaa;intro K52 p
    apply Zad
    refine rg [1,6,105,106] hs ?_
    obtain ⟨ar,ai,h⟩:=bind_some h
    refine rc 2 [1,7,105,106] hs ?_;intro K54 y
    refine Zac _ (ZtK w0 n _ _ _ a0 b _ ai) (hv hs) ?_
    refine ne hs y ?_
    clear y
    refine rg [1,7,105,106,113] hs ?_
    refine cnd h hs (fun hs h=>?_) (fun hs h=>?_)
    ·
     refine rg [2] hs ?_
     exact rt h hs a hO
    refine sk [1,105,106] hs p ?_
    clear p
    obtain ⟨ap,h⟩:=Zab h
    refine rl [1,105,106] hs (fun e s=>Vl48 ml48 e s (Nat.lt_succ_self _)) ?_
    exact ⟨(b+1),([]),Rl48,ef hs,ef hs,hO,h⟩
   ·
    clear h;rintro e st ⟨Xk45,Rk45,rfl,rfl,hO,h⟩
    rw [ZmR] at h
    refine td hN k l a hO ?_
    refine rg [2] hs ?_
    exact rt h hs a hO
def Zkh (rec:Ty→Int→Int→Option (Int × Int)) (n:Nat)  (pla2_k18:Int):Option (Int × Int) :=
 some ((0,pla2_k18))
def ZbW (rec:Ty→Int→Int→Option (Int × Int)) (n:Nat) (a0:Ty) (a1:Int) (y21:(List Ty)):Nat→Int→Int→Option (Int × Int)
 | 0,_,_=>none
 | m+1,x32_l22,pla2_l22 =>
  if decide (x32_l22<((y21.length:Int))) then
   (idx y21 x32_l22).bind fun x28 =>
   if I64 (a1+1) then
    (rec x28 (a1+1) pla2_l22).bind fun y32 =>
    if !(decide (y32.1=0)) then
     some ((y32.1,y32.2))
    else
     if decide (a0.kind=9) then
      (idx a0.fields x32_l22).bind fun x38 =>
      if decide (x38.2.2.1=3) then
       (idx x38.2.2.2.2 0).bind fun x40 =>
       (ZgP n x28 x40).bind fun y41 =>
       if !y41 then
        some ((18,y32.2))
       else
        if I64 (x32_l22+1) then
         (ZbW rec n a0 a1 y21 m) (x32_l22+1) y32.2
        else none
      else
       if I64 (x32_l22+1) then
        (ZbW rec n a0 a1 y21 m) (x32_l22+1) y32.2
       else none
     else
      if I64 (x32_l22+1) then
       (ZbW rec n a0 a1 y21 m) (x32_l22+1) y32.2
      else none
   else none
  else
   Zkh rec n pla2_l22
def ZkB (rec:Ty→Int→Int→Option (Int × Int)) (n:Nat) (a0:Ty) (a1:Int) (a2:Int):Option (Int × Int) :=
 if decide (a2=0) then
  some ((9,a2))
 else
  if decide (8<a1) then
   some ((23,a2))
  else
   if I64 (a2-1) then
    (ZmX n a0).bind fun y13 =>
    if !(decide (y13=0)) then
     some ((y13,a2-1))
    else
     (Zjv n a0).bind fun y21 =>
     ZbW rec n a0 a1 y21 n 0 (a2-1)
   else none
def ZgT:Nat→Ty→Int→Int→Option (Int × Int)
 | 0,_,_,_=>none
 | n+1,a0,a1,a2=>ZkB (ZgT n) n a0 a1 a2
def ZnS (w0:World) (F:Ty→Int→Int→Option (Int × Int)):Prop:=∀ (B:List (List AV)) (Rw:List RowA) (L:List LoopA) (a0:Ty) (a1:Int) (la2:Nat) (a2:Int) (hla2:B[la2]? = some ([.val (.int .i64 a2)])) (r:Int × Int),F a0 a1 a2=some r→ACalls Tryz.prog w0 80 [.agg (a0.cs),.val (.int .i64 a1),.box la2 0] ⟨B,Rw,L⟩ fun x st=>x = .val (.int .i64 r.1)∧st=⟨(B.set la2 [.val (.int .i64 r.2)]),Rw,L⟩
theorem Zqu (w0:World) (hT:Lib.Utf8Tabs 0 1 w0) (rec:Ty→Int→Int→Option (Int × Int)) (ih:ZnS w0 rec) (n:Nat):ZnS w0 (ZkB rec n):=by
 intro B Rw L a0 a1 z a2 b r h
 rw [ZkB] at h
 refine hd [.tmp 6] Tryz.func80 Tryz.ntmps80 fun M0 W0 hN ao aq a hu hO hs=>?_
 simp only [Zaq]
 have ay:=(List.getElem?_eq_some_iff.1 b).1
 have hs:=And.intro (Zag b) hs
 refine rg [1,2,3] hs ?_
 apply Zaa;intro K2 aw
 apply Zad
 refine rg [1,2,3,11] hs ?_
 refine cnd h hs (fun hs h=>?_) (fun hs h=>?_)
 ·
  have k:=hs.1
  refine rg [6] hs ?_
  exact rt h hs a hO
 have k:=hs.1
 refine rg [1,2,3,16] hs ?_
 refine cnd h hs (fun hs h=>?_) (fun hs h=>?_)
 ·
  have j:=hs.1
  refine rg [6] hs ?_
  exact rt h hs a hO
 have j:=hs.1
 refine sk [1,2,3] hs aw ?_
 clear aw
 obtain ⟨a9,h⟩:=Zab h
 refine rg [1,2,3] hs ?_
 apply Zaa;intro K11 ag
 obtain ⟨be,ak,h⟩:=bind_some h
 refine rc 2 [1,2,3,7] hs ?_;intro K12 af
 refine Zac _ (Zw8 w0 hT n _ _ _ a0 _ ak) (hv hs) ?_
 refine ne hs af ?_
 clear af
 refine rg [1,2,3,7,27] hs ?_
 refine cnd h hs (fun hs h=>?_) (fun hs h=>?_)
 ·
  have d:=hs.1
  refine rg [6] hs ?_
  apply ZaO;simp +decide only [go_sem,Nat.reduceAdd,Zag b,k,j,d]
  have hgt:=Option.some.inj h;subst hgt
  first | refine Zc2 (Zah a ev) ls_ hO.pre ev ⟨?_,rfl⟩ | refine Zfz (Zah a ev) ls_ hO.pre ev ⟨?_,rfl⟩
  first | rfl | (simp +decide only [go_sem,Nat.reduceAdd,Zag b,k,j,d];done) | (simp +decide only [go_sem,Nat.reduceAdd,Vl.cs,Ty.cs,Zag b,k,j,d];done)
 have d:=hs.1
 refine sk [1,2,3] hs ag ?_
 clear ag
 refine Zak (fun e st=>∃ (l:Int) (Xk18:List (List AV)) (Rk18:List RowA),e=[]∧st=⟨(B.set z ([.val (.int .i64 l)]))++([a0.cs]++Xk18),Rk18,L⟩∧Owns Rw Rk18 []∧Zkh rec n l=some r) ?_ ?_
 ·
  intro K19 am
  obtain ⟨aj,ax,h⟩:=bind_some h
  refine rc 2 [1,2,3,30,31,32] hs ?_;intro K20 ab
  refine Zac _ (Zux w0 n _ _ _ a0 _ ax) (hv hs) ?_
  refine ne hs ab ?_
  clear ab
  apply Zad
  refine Zao (fun m e st=>∃ (c:Int) (g:Int) (Xl22:List (List AV)) (Rl22:List RowA),e=[(1,true,.val (.int .i64 a1)),(2,true,.box z 0),(3,true,.box B.length 0),(30,true,.list (aj.map avT) .none),(31,true,.val (.int .i64 ((aj.length:Int)))),(32,true,.val (.int .i64 c))]∧st=⟨(B.set z ([.val (.int .i64 g)]))++([a0.cs]++Xl22),Rl22,L⟩∧Owns Rw Rl22 []∧ZbW rec n a0 a1 aj m c g=some r) n ⟨0,(a2-1),([]),Rw,ef hs,ef hs,hO,h⟩ ?_
  rintro ml22 e st ⟨c,g,Xl22,Rl22,rfl,rfl,hO,h⟩ Ul22 Vl22
  cases ml22 with
  | zero=>cases h
  | succ ml22 =>
  rw [ZbW] at h
  refine ZaD hN ao aq ls_ (Zah a ev) hO ow ow ?_
  refine rg [1,2,3,30,31,32,33] hs ?_
  apply Zaa;intro K24 aa
  refine cnd h hs (fun hs h=>?_) (fun hs h=>?_)
  rotate_left
  ·
   have o:=hs.1
   refine sx [] hs am ?_
   exact ⟨g,([]),Rl22,ef hs,ef hs,hO,h⟩
  have o:=hs.1
  refine sk [1,2,3,30,31,32] hs aa ?_
  clear aa
  apply Zaa;intro K26 v
  apply Zad
  obtain ⟨y,au,h⟩:=bind_some h
  obtain ⟨a3,a6,ai⟩:=Zan au
  have i:=Zap (f:=avT) ai
  have hs:=And.intro i hs
  refine rg [1,2,3,8,9,30,31,32] hs ?_
  apply Zaa;intro K29 ae
  obtain ⟨ba,h⟩:=Zab h
  obtain ⟨ah,ap,h⟩:=bind_some h
  refine rc 2 [1,2,3,8,9,10,30,31,32] hs ?_;intro K30 ad
  refine Zbc _ (ih _ _ _ y (a1+1) z g (ef hs) _ ap) (hv hs) ?_;rintro _ _ ⟨rfl,rfl⟩
  refine ne hs ad ?_
  clear ad
  refine rg [1,2,3,8,9,10,30,31,32,43] hs ?_
  refine cnd h hs (fun hs h=>?_) (fun hs h=>?_)
  ·
   have q:=hs.1
   refine rg [6] hs ?_
   apply ZaO;simp +decide only [go_sem,Nat.reduceAdd,Zag b,k,j,d,o,i,q]
   have hgt:=Option.some.inj h;subst hgt
   first | refine Zc2 (Zah a ev) ls_ hO.pre ev ⟨?_,rfl⟩ | refine Zfz (Zah a ev) ls_ hO.pre ev ⟨?_,rfl⟩
   first | rfl | (simp +decide only [go_sem,Nat.reduceAdd,Zag b,k,j,d,o,i,q];done) | (simp +decide only [go_sem,Nat.reduceAdd,Vl.cs,Ty.cs,Zag b,k,j,d,o,i,q];done)
  have q:=hs.1
  refine sk [1,2,3,8,9,30,31,32] hs ae ?_
  clear ae
  apply Zaa;intro K36 u
  rcases Bool.eq_false_or_eq_true (decide (a0.kind=9)) with hf37 | hf37
  ·
   replace h:=Za9 h hf37
   obtain ⟨av,a5,a8,t,h⟩:=ix ZeF h
   rcases Bool.eq_false_or_eq_true (decide (av.2.2.1=3)) with hf39 | hf39
   ·
    replace h:=Za9 h hf39
    obtain ⟨az,a7,a4,p,h⟩:=ix avV h
    have w:(av.2.2.2.2.map avV).getD 0 .junk=_:=p
    obtain ⟨bf,ar,h⟩:=bind_some h
    have hs:=And.intro hf37 hs
    have hs:=And.intro t hs
    have hs:=And.intro hf39 hs
    have hs:=And.intro p hs
    have hs:=And.intro w hs
    refine dk 25 2 1 [1,2,3,30,31,32,69] hs mix ?_
    refine Zac _ (Zrl w0 hT n _ _ _ y az _ ar) (hv hs) ?_
    refine dn hs u ?_
    clear u
    refine cnd h hs (fun hs h=>?_) (fun hs h=>?_)
    ·
     have x:=hs.1
     refine rg [6] hs ?_
     apply ZaO;simp +decide only [go_sem,Nat.reduceAdd,Zag b,k,j,d,o,i,q,hf37,t,hf39,p,w,x]
     have hgt:=Option.some.inj h;subst hgt
     first | refine Zc2 (Zah a ev) ls_ hO.pre ev ⟨?_,rfl⟩ | refine Zfz (Zah a ev) ls_ hO.pre ev ⟨?_,rfl⟩
     first | rfl | (simp +decide only [go_sem,Nat.reduceAdd,Zag b,k,j,d,o,i,q,hf37,t,hf39,p,w,x];done) | (simp +decide only [go_sem,Nat.reduceAdd,Vl.cs,Ty.cs,Zag b,k,j,d,o,i,q,hf37,t,hf39,p,w,x];done)
    have x:=hs.1
    refine sk [1,2,3,30,31,32] hs v ?_
    clear v
    obtain ⟨bb,h⟩:=Zab h
    refine rl [1,2,3,30,31,32] hs (fun e s=>Vl22 ml22 e s (Nat.lt_succ_self _)) ?_
    exact ⟨(c+1),ah.2,([y.cs]),Rl22,ef hs,ef hs,hO,h⟩
   ·
    replace h:=Zba h hf39
    have hs:=And.intro hf37 hs
    have hs:=And.intro t hs
    have hs:=And.intro hf39 hs
    refine dk 25 2 1 [1,2,3,30,31,32,69] hs mix ?_
    refine Zau ?_
    refine dn hs u ?_
    clear u
    refine ZaQ false ev (ef hs) (fun hb45=>by cases hb45) (fun hb45=>?_)
    refine sk [1,2,3,30,31,32] hs v ?_
    clear v
    obtain ⟨bc,h⟩:=Zab h
    refine rl [1,2,3,30,31,32] hs (fun e s=>Vl22 ml22 e s (Nat.lt_succ_self _)) ?_
    exact ⟨(c+1),ah.2,([y.cs]),Rl22,ef hs,ef hs,hO,h⟩
  ·
   replace h:=Zba h hf37
   have hs:=And.intro hf37 hs
   refine dk 25 2 1 [1,2,3,30,31,32,69] hs mix ?_
   refine Zau ?_
   refine dn hs u ?_
   clear u
   refine ZaQ false ev (ef hs) (fun hb47=>by cases hb47) (fun hb47=>?_)
   refine sk [1,2,3,30,31,32] hs v ?_
   clear v
   obtain ⟨bd,h⟩:=Zab h
   refine rl [1,2,3,30,31,32] hs (fun e s=>Vl22 ml22 e s (Nat.lt_succ_self _)) ?_
   exact ⟨(c+1),ah.2,([y.cs]),Rl22,ef hs,ef hs,hO,h⟩
 ·
  clear h;rintro e st ⟨l,Xk18,Rk18,rfl,rfl,hO,h⟩
  rw [Zkh] at h
  refine ZaD hN ao aq ls_ (Zah a ev) hO ow ow ?_
  refine rg [6] hs ?_
  apply ZaO;simp +decide only [go_sem,Nat.reduceAdd,Zag b,k,j,d]
  have hgt:=Option.some.inj h;subst hgt
  first | refine Zc2 (Zah a ev) ls_ hO.pre ev ⟨?_,rfl⟩ | refine Zfz (Zah a ev) ls_ hO.pre ev ⟨?_,rfl⟩
  first | rfl | (simp +decide only [go_sem,Nat.reduceAdd,Zag b,k,j,d];done) | (simp +decide only [go_sem,Nat.reduceAdd,Vl.cs,Ty.cs,Zag b,k,j,d];done)
theorem Zo1 (w0:World) (hT:Lib.Utf8Tabs 0 1 w0):∀ n:Nat,ZnS w0 (ZgT n)
 | 0=>fun _ _ _ _ _ _ _ _ _ h=>(nomatch h)
 | n+1=>Zqu w0 hT (ZgT n) (Zo1 w0 hT n) n
def Zgj  : List (Nat × Vl)→Int→Option Int
 | [],b1_r6 =>
  some (b1_r6)
 | p_r6::rest,b1_r6 =>
  if I64 (b1_r6+1) then
   (Zgj  rest) (b1_r6+1)
  else none
def ZjC (a0:Vl):Option Int :=
 if a0.depth<4611686018427387904∧a0.wide=true then
  Zgj  (Zha 1 a0) 0
 else none
theorem Zqc (w0:World) (B:List (List AV)) (Rw:List RowA) (L:List LoopA) (a0:Vl) (r:Int) (h:ZjC a0=some r) :
  ACalls Tryz.prog w0 77 [.agg (a0.cs)] ⟨B,Rw,L⟩ fun x st=>x = .val (.int .i64 r)∧st=⟨B,Rw,L⟩:=by
 rw [ZjC] at h
 refine hd [.tmp 2] Tryz.func77 Tryz.ntmps77 fun M0 W0 hN g k b hu hO hs=>?_
 simp only [Zaq]
 refine rg [1] hs ?_
 refine rg [1,3] hs ?_
 apply Zaa;intro K3 e
 refine rc 2 [3,5] hs ?_;intro K4 c
 refine Zbc _ (Zki w0 _ _ _ a0) (hv hs) ?_;rintro _ _ ⟨rfl,rfl⟩
 refine ne hs c ?_
 clear c
 apply Zad
 obtain ⟨o,h⟩:=Zab h
 refine ZmJ (ZhE a0) (fun st=>st.boxes[(B.length+2)]? = some a0.cs) (fun i st=>∃ (a:Int) (Rr6:List RowA),st=⟨B++([a0.cs,[.val (.int .i64 a)],a0.cs]),Rr6,L⟩∧Owns Rw Rr6 []∧Zgj  ((Zha 1 a0).drop i) a=some r) (fun _ _=>False) ev ev (Zim w0 a0 o _) (fun x hx=>Zlk a0 x hx) (by decide) ?_ ⟨0,Rw,ef hs,hO,h⟩ (fun _ _ h=>h.elim) ?_ ?_ ?_
 ·
  rintro i st la ⟨a,Rr6,rfl,hO,h⟩ _ _;simp +decide [St.push]
 ·
  rintro i s1 ⟨XB,XR,XL⟩ x M1 W1 l la t hX hI m f hx q K hK
  obtain ⟨p,j,rfl,hi⟩:=ZlS a0 i x hx
  (try simp only at hX)
  subst hX
  obtain ⟨a,Rr6,rfl,hO,h⟩:=hI
  rw [ZpR j,Zgj] at h
  have d:=hO
  simp only [St.ext,St.push,List.append_assoc,List.append_nil]
  refine ZcR (Zdg [3] _) ?_ (ZaW _ _)
  apply Za4;simp +decide only [go_sem,Nat.reduceAdd]
  (repeat' apply And.intro)<;>first | refine hK _ _ (by simp [St.ext,St.push]) (fun KQ n=>?_) | exact cl
  clear hK
  dsimp only [St.ext,St.push]
  apply Zad
  obtain ⟨u,h⟩:=Zab h
  apply Zaf 1 [3]
  rw [Zae];simp +decide only [go_sem,Nat.reduceAdd]
  (repeat' apply And.intro)<;>first | refine n _ _ _ ⟨⟨B++[a0.cs,[.val (.int .i64 (a+1))],a0.cs],Rr6,L⟩,[],by first | rfl | (simp only [List.append_assoc,List.append_nil,List.cons_append,List.nil_append];done),⟨by simp,by first | exact Nat.le_refl _ | (have:=hO.len;simp;omega),rfl⟩,rfl,⟨(a+1),Rr6,ef hs,hO,h⟩,?_⟩ | exact cl
  exact .inl rfl
 ·
  rintro s la ⟨XB,XR,XL⟩ hXR ⟨a,Rr6,rfl,hO,h⟩ _ _
  simp only at hXR
  subst hXR
  rw [List.drop_eq_nil_of_le (by rw [Zix];exact Nat.le_refl _),Zgj] at h
  simp only [St.ext,St.push,List.append_assoc,List.append_nil]
  (repeat' apply And.intro)<;>first | refine e _ _ ?_ | exact cl
  clear e
  refine Znp (bs:=[a0.cs,[.val (.int .i64 a)],a0.cs]) hN g k rfl b hO ow ow ?_
  refine rg [2] hs ?_
  exact rt h hs b hO
 ·
  rintro ex s la X hX h;exact h.elim
def Zcy (rec:Ty→Option Int) (n:Nat) (again_l23:Int→Int→Option Int) (x38_l23:Int) (x3_k28:Int):Option Int :=
 if I64 (x38_l23+1) then
  again_l23 x3_k28 (x38_l23+1)
 else none
def ZcT (rec:Ty→Option Int) (n:Nat)  (x3_k4:Int):Option Int :=
 some ((if 4097<x3_k4 then 4097 else x3_k4))
def Zbl (rec:Ty→Option Int) (n:Nat) (a0:Ty):Nat→Int→Int→Option Int
 | 0,_,_=>none
 | m+1,x3_l23,x38_l23 =>
  if decide (x38_l23<((a0.fields.length:Int))) then
   (idx a0.fields x38_l23).bind fun x31 =>
   if decide (x31.2.2.1=1) then
    (rec x31.2.2.2.1).bind fun y35 =>
    if I64 (x3_l23+y35) then
     Zcy rec n (Zbl rec n a0 m) x38_l23 (x3_l23+y35)
    else none
   else
    if decide (x31.2.2.1=3) then
     (idx x31.2.2.2.2 0).bind fun x39 =>
     (ZjC x39).bind fun y40 =>
     if I64 (x3_l23+y40) then
      Zcy rec n (Zbl rec n a0 m) x38_l23 (x3_l23+y40)
     else none
    else
     Zcy rec n (Zbl rec n a0 m) x38_l23 x3_l23
  else
   ZcT rec n x3_l23
def ZgG (rec:Ty→Option Int) (n:Nat) (a0:Ty):Option Int :=
 if decide (a0.kind=8) then
  if decide (0<a0.min) then
   (idx a0.elem 0).bind fun x11 =>
   (rec x11).bind fun y12 =>
   if I64 (a0.min*y12) then
    if I64 (1+(a0.min*y12)) then
     ZcT rec n (1+(a0.min*y12))
    else none
   else none
  else
   ZcT rec n 1
 else
  if decide (a0.kind=10) then
   (idx a0.fields 0).bind fun x17 =>
   (rec x17.2.2.2.1).bind fun y18 =>
   if I64 (1+y18) then
    ZcT rec n (1+y18)
   else none
  else
   if decide (a0.kind=9) then
    Zbl rec n a0 n 1 0
   else
    ZcT rec n 1
def Zdh:Nat→Ty→Option Int
 | 0,_=>none
 | n+1,a0=>ZgG (Zdh n) n a0
def ZiJ (w0:World) (F:Ty→Option Int):Prop:=∀ (B:List (List AV)) (Rw:List RowA) (L:List LoopA) (a0:Ty) (r:Int),F a0=some r→ACalls Tryz.prog w0 136 [.agg (a0.cs)] ⟨B,Rw,L⟩ fun x st=>x = .val (.int .i64 r)∧st=⟨B,Rw,L⟩
theorem Zmo (w0:World) (rec:Ty→Option Int) (ih:ZiJ w0 rec) (n:Nat):ZiJ w0 (ZgG rec n):=by
 intro B Rw L a0 r h
 rw [ZgG] at h
 refine hd [.tmp 2] Tryz.func136 Tryz.ntmps136 fun M0 W0 hN v x g hu hO hs=>?_
 simp only [Zaq]
 refine rg [1] hs ?_
 refine rg [1,3] hs ?_
 refine Zak (fun e st=>∃ (i:Int),Ck e st B Rw L [(3,true,.val (.int .i64 i))] [a0.cs] [] (ZcT rec n i=some r)) ?_ ?_
 ·
  intro K5 l
  refine rg [1,3,7] hs ?_
  apply Zad
  refine rg [1,3,7,8] hs ?_
  refine cnd h hs (fun hs h=>?_) (fun hs h=>?_)
  ·
   refine rg [1,3,12] hs ?_
   refine cnd h hs (fun hs h=>?_) (fun hs h=>?_)
   ·
    obtain ⟨ai,ap,av,k,h⟩:=ix avT h
    have z:(a0.elem.map avT).getD 0 .junk=_:=k
    obtain ⟨aj,ab,h⟩:=bind_some h
    obtain ⟨a1,h⟩:=Zab h
    obtain ⟨az,h⟩:=Zab h
    have hs:=And.intro k hs
    have hs:=And.intro z hs
    refine dk 10 2 1 [3] hs mix ?_
    refine Zac _ (ih _ _ _ ai _ ab) (hv hs) ?_
    refine dn hs l ?_
    exact ⟨(1+(a0.min*aj)),([]),Rw,ef hs,ef hs,hO,h⟩
   refine sk [3] hs l ?_
   exact ⟨1,([]),Rw,ef hs,ef hs,hO,h⟩
  refine rg [1,3,7,23] hs ?_
  refine cnd h hs (fun hs h=>?_) (fun hs h=>?_)
  ·
   obtain ⟨am,au,ao,p,h⟩:=ix ZeF h
   have t:(a0.fields.map ZeF).getD 0 .junk=_:=p
   obtain ⟨ah,ad,h⟩:=bind_some h
   obtain ⟨a5,h⟩:=Zab h
   have hs:=And.intro p hs
   have hs:=And.intro t hs
   refine rk 2 [3] hs ?_
   refine Zac _ (ih _ _ _ am.2.2.2.1 _ ad) (hv hs) ?_
   refine ne hs l ?_
   exact ⟨(1+ah),([]),Rw,ef hs,ef hs,hO,h⟩
  refine rg [1,3,33] hs ?_
  refine cnd h hs (fun hs h=>?_) (fun hs h=>?_)
  ·
   refine rg [3,36,37,38] hs ?_
   apply Zad
   refine Zao (fun m e st=>∃ (b:Int) (a:Int),Ck e st B Rw L [(3,true,.val (.int .i64 b)),(36,true,.list (a0.fields.map ZeF) .none),(37,true,.val (.int .i64 ((a0.fields.length:Int)))),(38,true,.val (.int .i64 a))] [a0.cs] [] (Zbl rec n a0 m b a=some r)) n ⟨1,0,([]),Rw,ef hs,ef hs,hO,h⟩ ?_
   rintro ml23 e st ⟨b,a,Xl23,Rl23,rfl,rfl,hO,h⟩ Ul23 Vl23
   cases ml23 with
   | zero=>cases h
   | succ ml23 =>
   rw [Zbl] at h
   refine td hN v x g hO ?_
   refine rg [3,36,37,38,39] hs ?_
   apply Zaa;intro K25 q
   refine cnd h hs (fun hs h=>?_) (fun hs h=>?_)
   rotate_left
   ·
    refine sx [3] hs l ?_
    exact ⟨b,([]),Rl23,ef hs,ef hs,hO,h⟩
   refine sk [3,36,37,38] hs q ?_
   clear q
   refine Zak (fun e st=>∃ (d:Int),Ck e st B Rw L [(3,true,.val (.int .i64 d)),(36,true,.list (a0.fields.map ZeF) .none),(37,true,.val (.int .i64 ((a0.fields.length:Int)))),(38,true,.val (.int .i64 a))] [a0.cs] [] (Zcy rec n (Zbl rec n a0 ml23) a d=some r)) ?_ ?_
   ·
    intro K29 o
    apply Zad
    obtain ⟨c,aa,h⟩:=bind_some h
    obtain ⟨ag,aq,u⟩:=Zan aa
    have y:=Zap (f:=ZeF) u
    have hs:=And.intro y hs
    refine rg [3,5,36,37,38] hs ?_
    refine rg [3,5,36,37,38,43] hs ?_
    apply Zad
    refine rg [3,5,36,37,38,43,44] hs ?_
    refine cnd h hs (fun hs h=>?_) (fun hs h=>?_)
    ·
     obtain ⟨ak,ae,h⟩:=bind_some h
     obtain ⟨a4,h⟩:=Zab h
     refine rk 2 [3,36,37,38] hs ?_
     refine Zac _ (ih _ _ _ c.2.2.2.1 _ ae) (hv hs) ?_
     refine ne hs o ?_
     exact ⟨(b+ak),([.val (.int .i64 c.1)::(.val (.string c.2.1)::(.val (.int .i64 c.2.2.1)::((c.2.2.2.1.cs)++([.list (c.2.2.2.2.map avV) .none]))))]),Rl23,ef hs,ef hs,hO,h⟩
    refine rg [3,5,36,37,38,51] hs ?_
    refine cnd h hs (fun hs h=>?_) (fun hs h=>?_)
    ·
     obtain ⟨ay,aw,ar,j,h⟩:=ix avV h
     have w:(c.2.2.2.2.map avV).getD 0 .junk=_:=j
     obtain ⟨ax,af,h⟩:=bind_some h
     obtain ⟨a2,h⟩:=Zab h
     have hs:=And.intro j hs
     have hs:=And.intro w hs
     refine rk 2 [3,36,37,38] hs ?_
     refine Zac _ (Zqc w0 _ _ _ ay _ af) (hv hs) ?_
     refine ne hs o ?_
     exact ⟨(b+ax),([.val (.int .i64 c.1)::(.val (.string c.2.1)::(.val (.int .i64 c.2.2.1)::((c.2.2.2.1.cs)++([.list (c.2.2.2.2.map avV) .none]))))]),Rl23,ef hs,ef hs,hO,h⟩
    refine sk [3,36,37,38] hs o ?_
    exact ⟨b,([.val (.int .i64 c.1)::(.val (.string c.2.1)::(.val (.int .i64 c.2.2.1)::((c.2.2.2.1.cs)++([.list (c.2.2.2.2.map avV) .none]))))]),Rl23,ef hs,ef hs,hO,h⟩
   ·
    clear h;rintro e st ⟨d,Xk28,Rk28,rfl,rfl,hO,h⟩
    rw [Zcy] at h
    refine td hN v x g hO ?_
    obtain ⟨a3,h⟩:=Zab h
    refine rl [3,36,37,38] hs (fun e s=>Vl23 ml23 e s (Nat.lt_succ_self _)) ?_
    exact ⟨d,(a+1),([]),Rk28,ef hs,ef hs,hO,h⟩
  refine sk [3] hs l ?_
  exact ⟨1,([]),Rw,ef hs,ef hs,hO,h⟩
 ·
  clear h;rintro e st ⟨i,Xk4,Rk4,rfl,rfl,hO,h⟩
  rw [ZcT] at h
  refine td hN v x g hO ?_
  refine rg [2] hs ?_
  exact rt h hs g hO
theorem Zj7 (w0:World):∀ n:Nat,ZiJ w0 (Zdh n)
 | 0=>fun _ _ _ _ _ h=>(nomatch h)
 | n+1=>Zmo w0 (Zdh n) (Zj7 w0 n) n
def Zfi (rec:Ty→Option Int) (n:Nat)  (x3_k18:Int):Option Int :=
 some (x3_k18)
def ZbO (rec:Ty→Option Int) (n:Nat) (a0:Ty):Nat→Int→Int→Option Int
 | 0,_,_=>none
 | m+1,x3_l21,x25_l21 =>
  if decide (x25_l21<((a0.fields.length:Int))) then
   (idx a0.fields x25_l21).bind fun x27 =>
   (rec x27.2.2.2.1).bind fun y28 =>
   if I64 (x25_l21+1) then
    (ZbO rec n a0 m) ((if x3_l21<y28 then y28 else x3_l21)) (x25_l21+1)
   else none
  else
   Zfi rec n x3_l21
def Zd7 (rec:Ty→Option Int) (n:Nat) (a0:Ty) (x3_k5:Int):Option Int :=
 ZbO rec n a0 n x3_k5 0
def ZbV (rec:Ty→Option Int) (n:Nat) (a0:Ty):Nat→Int→Int→Option Int
 | 0,_,_=>none
 | m+1,x3_l8,x13_l8 =>
  if decide (x13_l8<((a0.elem.length:Int))) then
   (idx a0.elem x13_l8).bind fun x14 =>
   (rec x14).bind fun y15 =>
   if I64 (x13_l8+1) then
    (ZbV rec n a0 m) ((if x3_l8<y15 then y15 else x3_l8)) (x13_l8+1)
   else none
  else
   Zd7 rec n a0 x3_l8
def Zez (rec:Ty→Option Int) (n:Nat) (a0:Ty):Option Int :=
 (Zdh n a0).bind fun y3 =>
 ZbV rec n a0 n y3 0
def Zcf:Nat→Ty→Option Int
 | 0,_=>none
 | n+1,a0=>Zez (Zcf n) n a0
def Zgt (w0:World) (F:Ty→Option Int):Prop:=∀ (B:List (List AV)) (Rw:List RowA) (L:List LoopA) (a0:Ty) (r:Int),F a0=some r→ACalls Tryz.prog w0 81 [.agg (a0.cs)] ⟨B,Rw,L⟩ fun x st=>x = .val (.int .i64 r)∧st=⟨B,Rw,L⟩
theorem Zkr (w0:World) (rec:Ty→Option Int) (ih:Zgt w0 rec) (n:Nat):Zgt w0 (Zez rec n):=by
 intro B Rw L a0 r h
 rw [Zez] at h
 refine hd [.tmp 2] Tryz.func81 Tryz.ntmps81 fun M0 W0 hN l o g hu hO hs=>?_
 simp only [Zaq]
 refine rg [1] hs ?_
 obtain ⟨y3,ak,h⟩:=bind_some h
 refine rc 2 [1,3] hs ?_;intro K2 ag
 refine Zac _ (Zj7 w0 n _ _ _ a0 _ ak) (hv hs) ?_
 refine ne hs ag ?_
 clear ag
 refine Zak (fun e st=>∃ (j:Int),Ck e st B Rw L [(1,true,.box B.length 0),(3,true,.val (.int .i64 j))] [a0.cs] [] (Zd7 rec n a0 j=some r)) ?_ ?_
 ·
  intro K6 am
  refine rg [1,3,11,12,13] hs ?_
  apply Zad
  refine Zao (fun m e st=>∃ (c:Int) (d:Int),Ck e st B Rw L [(1,true,.box B.length 0),(3,true,.val (.int .i64 c)),(11,true,.list (a0.elem.map avT) .none),(12,true,.val (.int .i64 ((a0.elem.length:Int)))),(13,true,.val (.int .i64 d))] [a0.cs] [] (ZbV rec n a0 m c d=some r)) n ⟨y3,0,([]),Rw,ef hs,ef hs,hO,h⟩ ?_
  rintro ml8 e st ⟨c,d,Xl8,Rl8,rfl,rfl,hO,h⟩ Ul8 Vl8
  cases ml8 with
  | zero=>cases h
  | succ ml8 =>
  rw [ZbV] at h
  refine td hN l o g hO ?_
  refine rg [1,3,11,12,13,14] hs ?_
  apply Zaa;intro K10 q
  refine cnd h hs (fun hs h=>?_) (fun hs h=>?_)
  rotate_left
  ·
   refine sx [1,3] hs am ?_
   exact ⟨c,([]),Rl8,ef hs,ef hs,hO,h⟩
  refine sk [1,3,11,12,13] hs q ?_
  clear q
  apply Zaa;intro K12 t
  apply Zad
  obtain ⟨ad,z,h⟩:=bind_some h
  obtain ⟨aj,ao,y⟩:=Zan z
  have v:=Zap (f:=avT) y
  have hs:=And.intro v hs
  refine rg [1,3,5,11,12,13] hs ?_
  obtain ⟨ai,ab,h⟩:=bind_some h
  refine rk 2 [1,3,11,12,13] hs ?_
  refine Zac _ (ih _ _ _ ad _ ab) (hv hs) ?_
  refine ne hs t ?_
  clear t
  obtain ⟨ar,h⟩:=Zab h
  refine rl [1,3,11,12,13] hs (fun e s=>Vl8 ml8 e s (Nat.lt_succ_self _)) ?_
  exact ⟨((if c<ai then ai else c)),(d+1),([ad.cs]),Rl8,ef hs,ef hs,hO,h⟩
 ·
  clear h;rintro e st ⟨j,Xk5,Rk5,rfl,rfl,hO,h⟩
  rw [Zd7] at h
  refine td hN l o g hO ?_
  refine Zak (fun e st=>∃ (i:Int),Ck e st B Rw L [(3,true,.val (.int .i64 i))] [a0.cs] [] (Zfi rec n i=some r)) ?_ ?_
  ·
   intro K19 aa
   refine rg [3,23,24,25] hs ?_
   apply Zad
   refine Zao (fun m e st=>∃ (a:Int) (b:Int),Ck e st B Rw L [(3,true,.val (.int .i64 a)),(23,true,.list (a0.fields.map ZeF) .none),(24,true,.val (.int .i64 ((a0.fields.length:Int)))),(25,true,.val (.int .i64 b))] [a0.cs] [] (ZbO rec n a0 m a b=some r)) n ⟨j,0,([]),Rk5,ef hs,ef hs,hO,h⟩ ?_
   rintro ml21 e st ⟨a,b,Xl21,Rl21,rfl,rfl,hO,h⟩ Ul21 Vl21
   cases ml21 with
   | zero=>cases h
   | succ ml21 =>
   rw [ZbO] at h
   refine td hN l o g hO ?_
   refine rg [3,23,24,25,26] hs ?_
   apply Zaa;intro K23 p
   refine cnd h hs (fun hs h=>?_) (fun hs h=>?_)
   rotate_left
   ·
    refine sx [3] hs aa ?_
    exact ⟨a,([]),Rl21,ef hs,ef hs,hO,h⟩
   refine sk [3,23,24,25] hs p ?_
   clear p
   apply Zaa;intro K25 u
   apply Zad
   obtain ⟨k,ah,h⟩:=bind_some h
   obtain ⟨ap,aq,x⟩:=Zan ah
   have w:=Zap (f:=ZeF) x
   have hs:=And.intro w hs
   refine rg [3,7,23,24,25] hs ?_
   obtain ⟨ae,af,h⟩:=bind_some h
   refine rk 2 [3,23,24,25] hs ?_
   refine Zac _ (ih _ _ _ k.2.2.2.1 _ af) (hv hs) ?_
   refine ne hs u ?_
   clear u
   obtain ⟨au,h⟩:=Zab h
   refine rl [3,23,24,25] hs (fun e s=>Vl21 ml21 e s (Nat.lt_succ_self _)) ?_
   exact ⟨((if a<ae then ae else a)),(b+1),([.val (.int .i64 k.1)::(.val (.string k.2.1)::(.val (.int .i64 k.2.2.1)::((k.2.2.2.1.cs)++([.list (k.2.2.2.2.map avV) .none]))))]),Rl21,ef hs,ef hs,hO,h⟩
  ·
   clear h;rintro e st ⟨i,Xk18,Rk18,rfl,rfl,hO,h⟩
   rw [Zfi] at h
   refine td hN l o g hO ?_
   refine rg [2] hs ?_
   exact rt h hs g hO
theorem ZhN (w0:World):∀ n:Nat,Zgt w0 (Zcf n)
 | 0=>fun _ _ _ _ _ h=>(nomatch h)
 | n+1=>Zkr w0 (Zcf n) (ZhN w0 n) n
def Zes (n:Nat) (a0:Ty):Option Int :=
 (ZgT n a0 1 4096).bind fun y5 =>
 if !(decide (y5.1=0)) then
  some (y5.1)
 else
  (Zcf n a0).bind fun y11 =>
  if decide (4096<y11) then
   some (9)
  else
   some (0)
theorem ZjI (w0:World) (hT:Lib.Utf8Tabs 0 1 w0) (n:Nat) (B:List (List AV)) (Rw:List RowA) (L:List LoopA) (a0:Ty) (r:Int) (h:Zes n a0=some r) :
  ACalls Tryz.prog w0 30 [.agg (a0.cs)] ⟨B,Rw,L⟩ fun x st=>x = .val (.int .i64 r)∧st=⟨B,Rw,L⟩:=by
 rw [Zes] at h
 refine hd [.tmp 2] Tryz.func30 Tryz.ntmps30 fun M0 W0 hN i j a hu hO hs=>?_
 simp only [Zaq]
 refine rg [1] hs ?_
 refine rg [1,3] hs ?_
 apply Zaa;intro K3 e
 obtain ⟨y5,g,h⟩:=bind_some h
 refine rc 2 [1,4] hs ?_;intro K4 c
 refine Zbc _ (Zo1 w0 hT n _ _ _ a0 1 (B.length+1) 4096 ev _ g) (hv hs) ?_;rintro _ _ ⟨rfl,rfl⟩
 refine ne hs c ?_
 clear c
 refine rg [1,4,8] hs ?_
 refine cnd h hs (fun hs h=>?_) (fun hs h=>?_)
 ·
  refine rg [2] hs ?_
  exact rt h hs a hO
 refine sk [1] hs e ?_
 clear e
 apply Zaa;intro K9 d
 obtain ⟨k,f,h⟩:=bind_some h
 refine rc 2 [12] hs ?_;intro K10 b
 refine Zac _ (ZhN w0 n _ _ _ a0 _ f) (hv hs) ?_
 refine ne hs b ?_
 clear b
 refine cnd h hs (fun hs h=>?_) (fun hs h=>?_)
 ·
  refine rg [2] hs ?_
  exact rt h hs a hO
 refine sk [] hs d ?_
 clear d
 refine rg [2] hs ?_
 exact rt h hs a hO
def ZbN (n:Nat) (a0:List (ByteArray × Vl)) (a1:(ByteArray × Vl)→Option Bool):Option Bool :=
 (Zbp n a0 a1).bind fun y3 =>
 some (decide (0≤y3))
theorem ZhP (w0:World) (n:Nat) (B:List (List AV)) (Rw:List RowA) (L:List LoopA) (a0:List (ByteArray × Vl)) (fa1:FuncId) (ca1:List AV) (a1:(ByteArray × Vl)→Option Bool) (ha1:∀ (x0:ByteArray × Vl) r,a1 x0=some r→∀ B' rows,B <+: B'→Rw <+: rows→ACalls Tryz.prog w0 fa1 ([.agg (.val (.string x0.1)::(x0.2.cs))]++ca1) ⟨B',rows,L⟩ fun v s=>v = .val (.bool r)∧s=⟨B',rows,L⟩) (r:Bool) (h:ZbN n a0 a1=some r) :
  ACalls Tryz.prog w0 216 [.list (a0.map avF) .none,.clo fa1 ca1] ⟨B,Rw,L⟩ fun x st=>x = .val (.bool r)∧st=⟨B,Rw,L⟩:=by
 rw [ZbN] at h
 refine hd [.tmp 4] Tryz.func216 Tryz.ntmps216 fun M0 W0 hN g i b hu hO hs=>?_
 simp only [Zaq]
 have d:=ZbC (hu (.clo fa1 ca1) (by simp))
 refine rg [0,1] hs ?_
 obtain ⟨y3,f,h⟩:=bind_some h
 refine rc 2 [4] hs ?_;intro K2 c
 refine Zac _ (Zgk w0 n _ _ _ a0 fa1 ca1 a1 (fun x0 r hx e a q1 q2=>ha1 x0 r hx e a (List.IsPrefix.trans px q1) (hO.pre.trans q2)) _ f) (hv hs) ?_
 refine ne hs c ?_
 clear c
 exact rt h hs b hO
def Zcr (a0:ByteArray × Vl) (a1:ByteArray × Vl):Bool :=
 (sEq a0.1 a1.1)&&(!(Za8 a0.2))
theorem ZpP (w0:World) (B:List (List AV)) (Rw:List RowA) (L:List LoopA) (a0:ByteArray × Vl) (la1:Nat) (a1:ByteArray × Vl) (hla1:B[la1]? = some (.val (.string a1.1)::(a1.2.cs))) (r:Bool) (h:Zcr a0 a1=r) :
  ACalls Tryz.prog w0 217 [.agg (.val (.string a0.1)::(a0.2.cs)),.box la1 0] ⟨B,Rw,L⟩ fun x st=>x = .val (.bool r)∧st=⟨B,Rw,L⟩:=by
 rw [Zcr] at h
 refine hd [.tmp 3] Tryz.func217 Tryz.ntmps217 fun M0 W0 hN d e a hu hO hs=>?_
 simp only [Zaq]
 have c:=(List.getElem?_eq_some_iff.1 hla1).1
 have hs:=And.intro (Zag hla1) hs
 refine rg [1,2] hs ?_
 refine rc 2 [3] hs ?_;intro K2 b
 refine Zdv _ (fun _=>Zi6 w0 _ _ _ a0.2) (hv hs) ?_
 refine ne hs b ?_
 clear b
 exact rT h hs a hO
theorem Zn9 (w0:World) (B:List (List AV)) (Rw:List RowA) (L:List LoopA) (a0:ByteArray × Vl) (la1:Nat) (a1:ByteArray × Vl) (hla1:B[la1]? = some (.val (.string a1.1)::(a1.2.cs))) :
  ACalls Tryz.prog w0 217 [.agg (.val (.string a0.1)::(a0.2.cs)),.box la1 0] ⟨B,Rw,L⟩ fun x st=>x = .val (.bool (Zcr a0 a1))∧st=⟨B,Rw,L⟩:=ZpP w0 B Rw L a0 la1 a1 hla1 _ rfl
structure VPre (Rw rows:List RowA):Prop where
 pre:Rw <+: rows
def Zp3:ByteArray × Vl:=(⟨#[]⟩,Vl.mk 0 0 0 ⟨#[]⟩ [] [])
def Zcn (l:List (ByteArray × Vl)):List (ByteArray × Vl):=Zlp Prod.fst Zp3 l
theorem ZdP (l:List (ByteArray × Vl)):(Zcn l).length=l.length:=by simp only [Zcn,Zlp,List.length_map];exact ZeY _ _
theorem Zhd (x:ByteArray × Vl):(avF x).cells.length=7∧ZbS (avF x)=true:=by simp +decide only [go_sem,and_self]
theorem ZtZ (x:ByteArray × Vl):(avF x).pub=avF x:=by simp +decide only [go_sem]
theorem Zqp (x:ByteArray × Vl):∀ c∈(avF x).cells,∀ a b d,Under a b d c:=by
 intro c hc a b d
 simp only [avF,AV.cells,List.mem_cons] at hc
 rcases hc with rfl | hc
 ·
  exact .val _
 ·
  exact x.2.under a b d c hc
theorem ZvY (w0:World) (st:St):ACalls Tryz.prog w0 218 [.list [] .none,.clo 219 []] st fun r s=>r = .tup []∧s=st:=by
 refine ⟨ZaJ Tryz.func218 rfl (by decide),fun M w d e c=>?_⟩
 obtain ⟨v0,v1,rfl⟩:∃ v0 v1,d = #[v0,v1]:=by
  have hs:=c.1
  simp only [List.length_cons,List.length_nil] at hs
  match d,hs with
  | ⟨[a,b]⟩,_=>exact ⟨a,b,rfl⟩
 have h0:R w0 M w v0 (.list [] .none):=c.2 0 (by simp) (by simp)
 obtain ⟨p,cap,rfl⟩:∃ p cap,v0 = .slice p 0 cap:=by
  generalize hx:AV.list [] Ev.Own.none=x at h0
  cases h0 with
  | nil ho=>exact ⟨_,_,rfl⟩
  | emp ho=>exact ⟨_,_,rfl⟩
  | list sz us hc hm hcell hu ho=>cases hx;exact ⟨_,_,rfl⟩
  | _=>cases hx
 have h:=AnyF.slices_SortFunc_none (P:=Tryz.prog) (ρ:=Tryz.laysSort_ren) Tryz.laysSort p cap v1 w
 refine h.mono ?_
 rintro en w' ⟨rfl,rfl⟩
 exact ⟨.tuple #[],M,.tup [],st,rfl,⟨rfl,rfl⟩,.refl _ _ _,e,.tup rfl (fun i h1 _=>absurd h1 (by simp))⟩
theorem Zvd (w0:World) {st:St} {id ver:Nat} (l:List (ByteArray × Vl)) (hid:st.rows[id]? = some (.vec ver 7 (l.flatMap fun x=>(avF x).cells))) (hn:0<l.length) (hz:l.length<4611686018427387904) :
  ACalls Tryz.prog w0 218 [.vec id ver 0 l.length,.clo 219 []] st fun r s=>r = .tup []∧s={ st with rows:=st.rows.set id (.vec ver 7 ((Zcn l).flatMap fun x=>(avF x).cells)) } :=
 Zu7 (ρ:=Tryz.laysSort_ren) Tryz.laysSort (ZaJ Tryz.func218 rfl (by decide)) 6 Tryz.isAgg75 Tryz.sizeOf75 219 (ZaJ Tryz.func219 rfl (by decide))
  (fun s s' r r' W h1 h2 h3 h4=>Zui s s' r r' W h1 h2 h3 h4) avF Prod.fst Zp3 l (fun x=>⟨x.2.cs,rfl,Vl.cs_length _⟩) hid hn hz
def Zgg (n:Nat) (again_l7:Int→(List (ByteArray × Vl))→Option Vl) (x10_l7:Int) (b1_k12_5:List (ByteArray × Vl)):Option Vl :=
 if I64 (x10_l7+1) then
  again_l7 (x10_l7+1) b1_k12_5
 else none
def ZgS (n:Nat)  (b1_k4_5:List (ByteArray × Vl)):Option Vl :=
 if b1_k4_5.length<4611686018427387904 then
  (Zbi n (Vl.mk 9 0 0 ((⟨#[]⟩:ByteArray)) ([]) (Zcn b1_k4_5))).bind fun y29 =>
  some (y29)
 else none
def ZcO (n:Nat) (a0:List (ByteArray × Vl)):Nat→Int→(List (ByteArray × Vl))→Option Vl
 | 0,_,_=>none
 | m+1,x10_l7,b1_l7_5 =>
  if decide (x10_l7<((a0.length:Int))) then
   (idx a0 x10_l7).bind fun x15 =>
   if I64 (x10_l7+1) then
    if 0≤x10_l7+1∧x10_l7+1≤(a0.length:Int)∧(a0.length:Int)≤(a0.length:Int) then
     (ZbN n (a0.drop (x10_l7+1).toNat) (fun (x0:ByteArray × Vl)=>some (Zcr x0 x15))).bind fun y19 =>
     if (!(Za8 x15.2))&&(!y19) then
      if (b1_l7_5.length+1)*104≤140737488355328∧b1_l7_5.length+1≤4611686018427387904 then
       Zgg n (ZcO n a0 m) x10_l7 (b1_l7_5++([x15]))
      else none
     else
      Zgg n (ZcO n a0 m) x10_l7 b1_l7_5
    else none
   else none
  else
   ZgS n b1_l7_5
def ZhY (n:Nat) (a0:List (ByteArray × Vl)):Option Vl :=
 ZcO n a0 n 0 ([])
theorem Zsa (w0:World) (n:Nat) (B:List (List AV)) (Rw:List RowA) (L:List LoopA) (a0:List (ByteArray × Vl)) (r:Vl) (h:ZhY n a0=some r) :
  ACalls Tryz.prog w0 171 [.list (a0.map avF) .none] ⟨B,Rw,L⟩ fun x st=>x = .agg (r.cs)∧st=⟨B,Rw,L⟩:=by
 rw [ZhY] at h
 refine hd [.cell 2 46] Tryz.func171 Tryz.ntmps171 fun M0 W0 hN ab ad k hu hO hs=>?_
 simp only [Zaq]
 refine rg [0,2] hs ?_
 apply Zaa;intro K2 ai
 apply Zaf 1 [0,2,3]
 rw [Zae];simp +decide only [go_sem,Nat.reduceAdd,Zpj,Zmh,ZiO]
 (repeat' apply And.intro)<;>first | refine ai _ _ ?_ | exact cl
 clear ai
 refine Zak (fun e st=>∃ (a:List (ByteArray × Vl)) (j:AV) (Xk4:List (List AV)) (Rk4:List RowA),e=[(2,true,.box B.length 0),(3,true,.box (B.length+1) 0)]∧st=⟨B++([[.val (.int .i64 0),.val (.int .i64 0),.val (.int .i64 0),.val (.string ((⟨#[]⟩:ByteArray))),.list ([]) .full,.list ([]) .full],[.val (.int .i64 9),.val (.int .i64 0),.val (.int .i64 0),.val (.string ((⟨#[]⟩:ByteArray))),.list ([]) .full,j]]++Xk4),Rk4,L⟩∧VOne Rw Rk4 7 (a.map avF) j∧ZgS n a=some r) ?_ ?_
 ·
  intro K5 ak
  refine Zl8 (B.length+1) 5 (by first | rfl | (simp only [Zgx,Zey];rfl)) rfl ?_;simp +decide only [go_sem,Nat.reduceAdd,List.set_cons_succ,List.set_cons_zero]
  refine rg [0,2,3,8,9,10] hs ?_
  apply Zad
  refine Zao (fun m e st=>∃ (d:Int) (b:List (ByteArray × Vl)) (c:AV) (Xl7:List (List AV)) (Rl7:List RowA),e=[(0,true,.list (a0.map avF) .none),(2,true,.box B.length 0),(3,true,.box (B.length+1) 0),(8,true,.list (a0.map avF) .none),(9,true,.val (.int .i64 ((a0.length:Int)))),(10,true,.val (.int .i64 d))]∧st=⟨B++([[.val (.int .i64 0),.val (.int .i64 0),.val (.int .i64 0),.val (.string ((⟨#[]⟩:ByteArray))),.list ([]) .full,.list ([]) .full],[.val (.int .i64 9),.val (.int .i64 0),.val (.int .i64 0),.val (.string ((⟨#[]⟩:ByteArray))),.list ([]) .full,c]]++Xl7),Rl7,L⟩∧VOne Rw Rl7 7 (b.map avF) c∧ZcO n a0 m d b=some r) n ⟨0,[],.list [] .seed,[],Rw,ef hs,ef hs,VOne.none Rw 7,h⟩ ?_
  rintro ml7 e st ⟨d,b,c,Xl7,Rl7,rfl,rfl,hO,h⟩ Ul7 Vl7
  cases ml7 with
  | zero=>cases h
  | succ ml7 =>
  rw [ZcO] at h
  have hU:=hO.under (B.length+2) L.length
  refine tdV hN ab ad k hO ?_
  refine rg [0,2,3,8,9,10,11] hs ?_
  apply Zaa;intro K9 ag
  refine cnd h hs (fun hs h=>?_) (fun hs h=>?_)
  rotate_left
  ·
   refine sx [2,3] hs ak ?_
   exact ⟨b,c,([]),Rl7,ef hs,ef hs,VOne.of_eq hO (by simp only [List.map_append,List.map_cons,List.map_nil]),h⟩
  refine sk [0,2,3,8,9,10] hs ag ?_
  clear ag
  refine Zak (fun e st=>∃ (i:List (ByteArray × Vl)) (g:AV) (Xk12:List (List AV)) (Rk12:List RowA),e=[(0,true,.list (a0.map avF) .none),(2,true,.box B.length 0),(3,true,.box (B.length+1) 0),(8,true,.list (a0.map avF) .none),(9,true,.val (.int .i64 ((a0.length:Int)))),(10,true,.val (.int .i64 d))]∧st=⟨B++([[.val (.int .i64 0),.val (.int .i64 0),.val (.int .i64 0),.val (.string ((⟨#[]⟩:ByteArray))),.list ([]) .full,.list ([]) .full],[.val (.int .i64 9),.val (.int .i64 0),.val (.int .i64 0),.val (.string ((⟨#[]⟩:ByteArray))),.list ([]) .full,g]]++Xk12),Rk12,L⟩∧VOne Rw Rk12 7 (i.map avF) g∧Zgg n (ZcO n a0 ml7) d i=some r) ?_ ?_
  ·
   intro K13 w
   apply Zad
   obtain ⟨x15,ah,h⟩:=bind_some h
   obtain ⟨am,aq,af⟩:=Zan ah
   have ae:=Zap (f:=avF) af
   have hs:=And.intro ae hs
   refine rg [0,2,3,4,5,8,9,10] hs ?_
   obtain ⟨ay,h⟩:=Zab h
   obtain ⟨a1,h⟩:=Zab h
   obtain ⟨a3,hy19,h⟩:=bind_some h
   refine rc 2 [0,2,3,5,6,8,9,10] hs ?_;intro K16 aa
   refine Zac _ (ZhP w0 n _ _ _ (a0.drop (d+1).toNat) 217 [.box (B.length+2) 0] (fun (x0:ByteArray × Vl)=>some (Zcr x0 x15)) (fun x0 r hx B' ax hB' a2=>by cases hx;exact Zn9 w0 _ _ _ x0 _ x15 (ZcE hB' (ef hs))) _ hy19) (hv hs) ?_
   refine ne hs aa ?_
   clear aa
   refine rc 2 [0,2,3,5,8,9,10,28] hs ?_;intro K20 u
   refine Zac _ (Zi6 w0 _ _ _ x15.2) (hv hs) ?_
   refine ne hs u ?_
   clear u
   refine cnd h hs (fun hs h=>?_) (fun hs h=>?_)
   ·
    obtain ⟨v,h⟩:=Zab h
    obtain ⟨ap,t,hO,l⟩:=hO.append (P:=Tryz.prog) (y:=avF x15) Zkb (by rw [Zf1];rfl) (by decide) (by rw [List.length_map];exact v.1) (by rw [List.length_map];exact v.2) (Zhd x15) (ZtZ x15) (Zqp x15) (fun z hz=>by obtain ⟨y,_,rfl⟩:=List.mem_map.1 hz;exact (Zhd y).1)
    simp only [Zeu] at l
    replace l:=And.intro l hO.cell
    have hs:=And.intro l hs
    refine rl [0,2,3,8,9,10] hs w ?_
    exact ⟨(b++([x15])),ap,([.val (.string x15.1)::(x15.2.cs)]),t,ef hs,ef hs,VOne.of_eq hO (by simp only [List.map_append,List.map_cons,List.map_nil]),h⟩
   refine sk [0,2,3,8,9,10] hs w ?_
   exact ⟨b,c,([.val (.string x15.1)::(x15.2.cs)]),Rl7,ef hs,ef hs,VOne.of_eq hO (by simp only [List.map_append,List.map_cons,List.map_nil]),h⟩
  ·
   clear h;rintro e st ⟨i,g,Xk12,Rk12,rfl,rfl,hO,h⟩
   rw [Zgg] at h
   have hU:=hO.under (B.length+2) L.length
   refine tdV hN ab ad k hO ?_
   obtain ⟨az,h⟩:=Zab h
   refine rl [0,2,3,8,9,10] hs (fun e s=>Vl7 ml7 e s (Nat.lt_succ_self _)) ?_
   exact ⟨(d+1),i,g,([]),Rk12,ef hs,ef hs,VOne.of_eq hO (by simp only [List.map_append,List.map_cons,List.map_nil]),h⟩
 ·
  clear h;rintro e st ⟨a,j,Xk4,Rk4,rfl,rfl,hO,h⟩
  rw [ZgS] at h
  have hU:=hO.under (B.length+2) L.length
  refine tdV hN ab ad k hO ?_
  obtain ⟨au,h⟩:=Zab h
  rcases hO.at_ with ⟨hnil,rfl⟩ | ⟨id,ver,rfl,hpos,hid,hrow⟩
  ·
   have hb0:a=[]:=List.map_eq_nil_iff.1 hnil
   subst hb0
   refine rc 2 [2,3] hs ?_;intro K27 o
   refine Zac _ (ZvY w0 _) (hv hs) ?_
   refine ne hs o ?_
   clear o
   obtain ⟨ar,q,h⟩:=bind_some h
   rw [show Zcn []=[] from List.eq_nil_of_length_eq_zero (ZdP [])] at q
   refine rc 2 [2] hs ?_;intro K28 p
   refine Zac _ (ZeZ w0 n _ _ _ (Vl.mk 9 0 0 ((⟨#[]⟩:ByteArray)) ([]) []) _ q) (hv hs) ?_
   refine ne hs p ?_
   clear p
   exact rt h hs k hO
  ·
   rw [List.length_map] at hpos
   rw [List.length_map]
   rw [show ((a.map avF).flatMap AV.cells)=a.flatMap fun x=>(avF x).cells from List.flatMap_map ..] at hrow
   refine rc 2 [2,3] hs ?_;intro K27 o
   refine Zbc _ (Zvd w0 (st:=⟨_,_,_⟩) a hrow hpos au) (hv hs) ?_;rintro _ _ ⟨rfl,rfl⟩
   refine ne hs o ?_
   clear o
   have aw:=(List.getElem?_eq_some_iff.1 hrow).1
   have av:Zj0 (Rk4.set id (.vec ver 7 ((Zcn a).flatMap fun x=>(avF x).cells))) id ver=some (7,(Zcn a).flatMap fun x=>(avF x).cells):=by simp [Zj0,aw]
   have aj:(Zcn a).length=a.length:=ZdP _
   refine Zj6 (B.length+1) 5 true (by first | rfl | (simp only [Zgx,Zey];rfl)) rfl av (.inl rfl) (by rw [Nat.zero_add,ZmW (fun x _=>(Zhd x).1),aj];exact Nat.le_refl _) ?_
   have ao:ZrK 7 true ((Zcn a).flatMap fun x=>(avF x).cells) 0 a.length=(Zcn a).map avF:=by
    have:=ZuE (ys:=(Zcn a).map avF) (sz:=7) (fun y hy=>by obtain ⟨x,_,rfl⟩:=List.mem_map.1 hy;exact ⟨_,rfl,(Zhd x).1⟩)
    rw [List.length_map,aj,List.flatMap_map] at this
    exact this
   rw [ao]
   simp +decide only [go_sem,Nat.reduceAdd,List.set_cons_succ,List.set_cons_zero]
   obtain ⟨ar,q,h⟩:=bind_some h
   have hO:VPre Rw ((Rk4.set id (.vec ver 7 ((Zcn a).flatMap fun x=>(avF x).cells))).set id (.dead (ver+1))):=⟨Zja (Zja hO.pre hid _) hid _⟩
   refine rc 2 [2] hs ?_;intro K28 p
   refine Zac _ (ZeZ w0 n _ _ _ (Vl.mk 9 0 0 ((⟨#[]⟩:ByteArray)) ([]) (Zcn a)) _ q) (hv hs) ?_
   refine ne hs p ?_
   clear p
   exact rt h hs k hO
def Zg8 (n:Nat) (a0:ByteArray) (a1:Vl):Option Vl :=
 (Zbi n (Vl.mk 10 0 0 a0 ([a1]) ([]))).bind fun y3 =>
 some (y3)
theorem Zrx (w0:World) (n:Nat) (B:List (List AV)) (Rw:List RowA) (L:List LoopA) (a0:ByteArray) (a1:Vl) (r:Vl) (h:Zg8 n a0 a1=some r) :
  ACalls Tryz.prog w0 134 [.val (.string a0),.agg (a1.cs)] ⟨B,Rw,L⟩ fun x st=>x = .agg (r.cs)∧st=⟨B,Rw,L⟩:=by
 rw [Zg8] at h
 refine hd [.cell 4 46] Tryz.func134 Tryz.ntmps134 fun M0 W0 hN d e a hu hO hs=>?_
 simp only [Zaq]
 refine rg [0,3,4] hs ?_
 obtain ⟨y3,c,h⟩:=bind_some h
 refine rc 2 [4] hs ?_;intro K2 b
 refine Zac _ (ZeZ w0 n _ _ _ (Vl.mk 10 0 0 a0 ([a1]) ([])) _ c) (hv hs) ?_
 refine ne hs b ?_
 clear b
 exact rt h hs a hO
def ffI {α:Type} (p:α→Bool) (l:List α) (j:Nat):Int :=
 if (l.drop j).findIdx p<(l.drop j).length then (j:Int)+((l.drop j).findIdx p:Nat) else -1
theorem Zin {α:Type} (p:α→Bool) (l:List α) (j:Nat) (h:l.length≤j):ffI p l j = -1:=by
 unfold ffI
 rw [List.drop_eq_nil_of_le h];rfl
theorem ZgB {α:Type} (p:α→Bool) (l:List α) (j:Nat) (h:j<l.length):ffI p l j=if p l[j]=true then (j:Int) else ffI p l (j+1):=by
 unfold ffI
 rw [List.drop_eq_getElem_cons h,List.findIdx_cons]
 cases hp:p l[j] with
 | true=>simp;omega
 | false =>
  simp only [cond_false,List.length_cons,Bool.false_eq_true,if_false]
  by_cases q:(l.drop (j+1)).findIdx p<(l.drop (j+1)).length
  ·
   rw [if_pos (by omega),if_pos q];push_cast;omega
  ·
   rw [if_neg (by omega),if_neg q]
theorem Zjs {α:Type} (p:α→Bool) (l:List α):∀ (k j:Nat),j+k=l.length→ffI p l j = -1∨∃ i,∃ h:i<l.length,ffI p l j=(i:Int)∧p l[i]=true
 | 0,j,h => .inl (Zin p l j (by omega))
 | k+1,j,h=>by
  have a:j<l.length:=by omega
  rw [ZgB p l j a]
  by_cases hp:p l[j]=true
  ·
   rw [if_pos hp];exact .inr ⟨j,a,rfl,hp⟩
  ·
   rw [if_neg hp];exact Zjs p l k (j+1) (by omega)
theorem ZmF (n:Nat) (l:List TF) (p:TF→Bool) (hl:l.length≤1000000000):∀ (k m i:Nat),i+k=l.length→k<m→Zaw n l (fun x=>some (p x)) m i=some (ffI p l i)
 | k,0,i,_,h=>absurd h (Nat.not_lt_zero _)
 | 0,m+1,i,hi,_=>by
  rw [Zaw,Zal,decide_eq_false (by omega),Zin p l i (by omega)]
  rfl
 | k+1,m+1,i,hi,hm=>by
  have a:i<l.length:=by omega
  rw [Zaw,Zal,decide_eq_true a]
  simp only [if_true,Zam a,Option.bind_some]
  rw [ZgB p l i a]
  by_cases hp:p l[i]=true
  ·
   rw [if_pos hp,if_pos hp]
  ·
   rw [if_neg hp,if_neg hp,if_pos (Zaj (by omega))]
   exact ZmF n l p hl k m (i+1) (by omega) (by omega)
def ZkP:TF:=(0,(⟨#[]⟩:ByteArray),0,Ty.mk 0 0 0 0 [] [] [],[])
theorem Zsh (n:Nat) (t:Ty) (p:TF→Bool) (hn:t.size+1450000≤n) (ht:t.small) :
  (t.kind≠9∧t.kind≠10∧ZfY n t (fun x=>some (p x))=some (ZkP,false)) ∨
  ((t.kind=9∨t.kind=10)∧((ffI p t.fields 0 = -1∧ZfY n t (fun x=>some (p x))=some (ZkP,false))∨∃ i,∃ h:i<t.fields.length,ffI p t.fields 0=(i:Int)∧ZfY n t (fun x=>some (p x))=some (t.fields[i],true))):=by
 obtain ⟨h1,h2,h3⟩:=ht
 have hl:=t.lens
 rw [ZfY]
 by_cases hk:t.kind=9∨t.kind=10
 ·
  right
  refine ⟨hk,?_⟩
  rw [if_neg (by simp only [Bool.and_eq_true,Bool.not_eq_true',decide_eq_false_iff_not];omega)]
  rw [Zay]
  have e:=ZmF n t.fields p (by omega) t.fields.length n 0 (by omega) (by omega)
  rw [show ((0:Nat):Int)=0 from rfl] at e
  rw [e]
  simp only [Option.bind_some]
  rcases Zjs p t.fields t.fields.length 0 (by omega) with q | ⟨i,hi,q,hp⟩
  ·
   rw [q];left;exact ⟨rfl,rfl⟩
  ·
   rw [q];right
   refine ⟨i,hi,rfl,?_⟩
   rw [decide_eq_false (by omega)]
   simp only [Bool.false_eq_true,if_false,Zam hi,Option.bind_some]
   obtain ⟨_,q2,q3,q4⟩:=(t.ok_eq.1 h3).2.2.2 _ (List.getElem_mem hi)
   have hs:=t.field_size _ (List.getElem_mem hi)
   rw [ZyD (Zfd n) n t.fields[i] (by omega) (by omega) (fun v hv=>Znn n v (by have:=(q4 v hv).1;omega) (by have:=(q4 v hv).1;omega)) (ZmZ n _ (by omega) (by omega) q2)]
   rfl
 ·
  left
  refine ⟨fun h=>hk (.inl h),fun h=>hk (.inr h),?_⟩
  rw [if_pos (by simp only [Bool.and_eq_true,Bool.not_eq_true',decide_eq_false_iff_not];omega)]
  rfl
def Zuy (rec:Vl→Option Int) (n:Nat)  (x3_k6:Int):Option Int :=
 some (x3_k6)
def ZhF (rec:Vl→Option Int) (n:Nat) (y4:(List Vl)):Nat→Int→Int→Option Int
 | 0,_,_=>none
 | m+1,x3_l9,x5_l9 =>
  if decide (x5_l9<((y4.length:Int))) then
   (idx y4 x5_l9).bind fun x14 =>
   (rec x14).bind fun y15 =>
   if I64 (x3_l9+y15) then
    if I64 (x5_l9+1) then
     (ZhF rec n y4 m) (x3_l9+y15) (x5_l9+1)
    else none
   else none
  else
   Zuy rec n x3_l9
def Zqv (rec:Vl→Option Int) (n:Nat) (a0:Vl):Option Int :=
 (ZjQ n a0).bind fun y4 =>
 ZhF rec n y4 n 1 0
def Zjz:Nat→Vl→Option Int
 | 0,_=>none
 | n+1,a0=>Zqv (Zjz n) n a0
def Ze8 (rec:Ty→Option Int) (n:Nat) (again_l16:Int→Int→Option Int) (x4_l16:Int) (x3_k21:Int):Option Int :=
 if I64 (x4_l16+1) then
  again_l16 x3_k21 (x4_l16+1)
 else none
def Zp5 (rec:Ty→Option Int) (n:Nat)  (x3_k13:Int):Option Int :=
 some ((if 5000<x3_k13 then 5000 else x3_k13))
def Zb4 (rec:Ty→Option Int) (n:Nat) (a0:Ty):Nat→Int→Int→Option Int
 | 0,_,_=>none
 | m+1,x3_l16,x4_l16 =>
  if (decide (x4_l16<((a0.fields.length:Int))))&&((decide (a0.kind=9))||(decide (x4_l16=0))) then
   (idx a0.fields x4_l16).bind fun x24 =>
   if decide (x24.2.2.1=1) then
    (rec x24.2.2.2.1).bind fun y27 =>
    if I64 (x3_l16+y27) then
     Ze8 rec n (Zb4 rec n a0 m) x4_l16 (x3_l16+y27)
    else none
   else
    if decide (x24.2.2.1=3) then
     (idx x24.2.2.2.2 0).bind fun x31 =>
     (Zjz n x31).bind fun y32 =>
     if I64 (x3_l16+y32) then
      Ze8 rec n (Zb4 rec n a0 m) x4_l16 (x3_l16+y32)
     else none
    else
     Ze8 rec n (Zb4 rec n a0 m) x4_l16 x3_l16
  else
   Zp5 rec n x3_l16
def ZfI (rec:Ty→Option Int) (n:Nat) (a0:Ty) (x3_k4:Int):Option Int :=
 Zb4 rec n a0 n x3_k4 0
def Zog (rec:Ty→Option Int) (n:Nat) (a0:Ty):Option Int :=
 if (decide (a0.kind=8))&&(decide (0<a0.min)) then
  (idx a0.elem 0).bind fun x8 =>
  (rec x8).bind fun y9 =>
  if I64 (a0.min*y9) then
   if I64 (1+(a0.min*y9)) then
    ZfI rec n a0 (1+(a0.min*y9))
   else none
  else none
 else
  ZfI rec n a0 1
def ZgI:Nat→Ty→Option Int
 | 0,_=>none
 | n+1,a0=>Zog (ZgI n) n a0
def ZnH (rec:Ty→Option Int) (n:Nat)  (x3_k17:Int):Option Int :=
 some (x3_k17)
def ZdQ (rec:Ty→Option Int) (n:Nat) (a0:Ty):Nat→Int→Int→Option Int
 | 0,_,_=>none
 | m+1,x3_l20,x5_l20 =>
  if decide (x5_l20<((a0.fields.length:Int))) then
   (idx a0.fields x5_l20).bind fun x25 =>
   (rec x25.2.2.2.1).bind fun y26 =>
   if I64 (x5_l20+1) then
    (ZdQ rec n a0 m) ((if x3_l20<y26 then y26 else x3_l20)) (x5_l20+1)
   else none
  else
   ZnH rec n x3_l20
def Zj9 (rec:Ty→Option Int) (n:Nat) (a0:Ty) (x3_k5:Int):Option Int :=
 ZdQ rec n a0 n x3_k5 0
def Zet (rec:Ty→Option Int) (n:Nat) (a0:Ty):Nat→Int→Int→Option Int
 | 0,_,_=>none
 | m+1,x3_l8,x4_l8 =>
  if decide (x4_l8<((a0.elem.length:Int))) then
   (idx a0.elem x4_l8).bind fun x13 =>
   (rec x13).bind fun y14 =>
   if I64 (x4_l8+1) then
    (Zet rec n a0 m) ((if x3_l8<y14 then y14 else x3_l8)) (x4_l8+1)
   else none
  else
   Zj9 rec n a0 x3_l8
def ZkY (rec:Ty→Option Int) (n:Nat) (a0:Ty):Option Int :=
 (ZgI n a0).bind fun y3 =>
 Zet rec n a0 n y3 0
def Zea:Nat→Ty→Option Int
 | 0,_=>none
 | n+1,a0=>ZkY (Zea n) n a0
def Zsb (n:Nat)  : Option Int :=
 some ((-1))
def ZgX (n:Nat) (a0:Ty) (a1:ByteArray):Nat→Int→Option Int
 | 0,_=>none
 | m+1,x5_l6 =>
  if decide (x5_l6<((a0.fields.length:Int))) then
   (idx a0.fields x5_l6).bind fun x12 =>
   if sEq x12.2.1 a1 then
    some (x5_l6)
   else
    if I64 (x5_l6+1) then
     (ZgX n a0 a1 m) (x5_l6+1)
    else none
  else
   Zsb n 
def ZlR (n:Nat) (a0:Ty) (a1:ByteArray):Option Int :=
 ZgX n a0 a1 n 0
def ZtV (n:Nat)  : Option Int :=
 some ((-1))
def ZhL (n:Nat) (a0:Vl) (a1:ByteArray):Nat→Int→Option Int
 | 0,_=>none
 | m+1,x5_l6 =>
  if (decide (a0.kind=9))&&(decide (x5_l6<((a0.fields.length:Int)))) then
   (idx a0.fields x5_l6).bind fun x12 =>
   if sEq x12.1 a1 then
    some (x5_l6)
   else
    if I64 (x5_l6+1) then
     (ZhL n a0 a1 m) (x5_l6+1)
    else none
  else
   ZtV n 
def Zq4 (n:Nat) (a0:Vl) (a1:ByteArray):Option Int :=
 ZhL n a0 a1 n 0
def ZpF (rec:Ty→Vl→Option Bool) (n:Nat)  : Option Bool :=
 some (true)
def Zee (rec:Ty→Vl→Option Bool) (n:Nat) (a0:Ty) (a1:Vl):Nat→Int→Option Bool
 | 0,_=>none
 | m+1,x7_l27 =>
  if decide (x7_l27<((a0.fields.length:Int))) then
   (idx a0.fields x7_l27).bind fun x33 =>
   if !(decide (x33.2.2.1=2)) then
    (Zq4 n a1 x33.2.1).bind fun y35 =>
    if decide (y35<0) then
     some (false)
    else
     if I64 (x7_l27+1) then
      (Zee rec n a0 a1 m) (x7_l27+1)
     else none
   else
    if I64 (x7_l27+1) then
     (Zee rec n a0 a1 m) (x7_l27+1)
    else none
  else
   ZpF rec n 
def Zji (rec:Ty→Vl→Option Bool) (n:Nat) (a0:Ty) (a1:Vl):Option Bool :=
 Zee rec n a0 a1 n 0
def ZcL (rec:Ty→Vl→Option Bool) (n:Nat) (a0:Ty) (a1:Vl):Nat→Int→Option Bool
 | 0,_=>none
 | m+1,x5_l6 =>
  if decide (x5_l6<((a1.fields.length:Int))) then
   (idx a1.fields x5_l6).bind fun x12 =>
   (ZlR n a0 x12.1).bind fun y13 =>
   if decide (y13<0) then
    some (false)
   else
    (idx a0.fields y13).bind fun x18 =>
    (rec x18.2.2.2.1 x12.2).bind fun y19 =>
    if !y19 then
     some (false)
    else
     if I64 (x5_l6+1) then
      (ZcL rec n a0 a1 m) (x5_l6+1)
     else none
  else
   Zji rec n a0 a1 
def Zks (rec:Ty→Vl→Option Bool) (n:Nat) (a0:Ty) (a1:Vl):Option Bool :=
 ZcL rec n a0 a1 n 0
def ZtH (rec:Ty→Vl→Option Bool) (n:Nat) (a0:Ty) (a1:Vl):Option Bool :=
 some ((decide (((a0.words.length:Int))=0))&&(decide (a0.min≤((a1.text.size:Int)))&&decide (((a1.text.size:Int))≤a0.max)))
def Zt3 (rec:Ty→Vl→Option Bool) (n:Nat) (a0:Ty) (a1:Vl):Option Bool :=
 some (decide (a0.min≤((a1.list.length:Int)))&&decide (((a1.list.length:Int))≤a0.max))
def Znq (rec:Ty→Vl→Option Bool) (n:Nat) (a0:Ty):Option Bool :=
 some (decide (a0.kind=1))
def ZhZ (rec:Ty→Vl→Option Bool) (n:Nat) (a0:Ty) (a1:Vl):Nat→Int→Option Bool
 | 0,_=>none
 | m+1,x5_l28 =>
  if decide (x5_l28<((a0.words.length:Int))) then
   (idx a0.words x5_l28).bind fun x34 =>
   if sEq x34 a1.text then
    some (true)
   else
    if I64 (x5_l28+1) then
     (ZhZ rec n a0 a1 m) (x5_l28+1)
    else none
  else
   ZtH rec n a0 a1 
def ZhA (rec:Ty→Vl→Option Bool) (n:Nat) (a0:Ty) (a1:Vl):Nat→Int→Option Bool
 | 0,_=>none
 | m+1,x6_l48 =>
  if decide (x6_l48<((a1.list.length:Int))) then
   if decide (((a0.elem.length:Int))=0) then
    some (false)
   else
    (idx a0.elem 0).bind fun x57 =>
    (idx a1.list x6_l48).bind fun x58 =>
    (rec x57 x58).bind fun y59 =>
    if !y59 then
     some (false)
    else
     if I64 (x6_l48+1) then
      (ZhA rec n a0 a1 m) (x6_l48+1)
     else none
  else
   Zt3 rec n a0 a1 
def ZaH (rec:Ty→Vl→Option Bool) (n:Nat) (a0:Ty) (a1:Vl) (x15_k11:Bool):Option Bool :=
 if x15_k11 then
  some (decide (a0.min≤a1.int)&&decide (a1.int≤a0.max))
 else
  if decide (a0.kind=3) then
   some ((decide (a1.scale=a0.scale))&&(decide (a0.min≤a1.int)&&decide (a1.int≤a0.max)))
  else
   if decide (a0.kind=4) then
    ZhZ rec n a0 a1 n 0
   else
    if decide (a0.kind=5) then
     some (decide (a0.min≤((a1.text.size:Int)))&&decide (((a1.text.size:Int))≤a0.max))
    else
     if decide (a0.kind=8) then
      ZhA rec n a0 a1 n 0
     else
      if decide (a0.kind=10) then
       (ZlR n a0 a1.text).bind fun y67 =>
       if decide (0≤y67) then
        (idx a0.fields y67).bind fun x70 =>
        (idx a1.list 0).bind fun x71 =>
        (rec x70.2.2.2.1 x71).bind fun y72 =>
        some (y72)
       else
        some (false)
      else
       if decide (a0.kind=9) then
        (Zks rec n a0 a1).bind fun y76 =>
        some (y76)
       else
        Znq rec n a0 
def ZpN (rec:Ty→Vl→Option Bool) (n:Nat) (a0:Ty) (a1:Vl):Option Bool :=
 if !(decide (a0.kind=a1.kind)) then
  some (false)
 else
  if decide (a0.kind=2) then
   ZaH rec n a0 a1 true
  else
   if decide (a0.kind=6) then
    ZaH rec n a0 a1 true
   else
    ZaH rec n a0 a1 (decide (a0.kind=7))
def Zcp:Nat→Ty→Vl→Option Bool
 | 0,_,_=>none
 | n+1,a0,a1=>ZpN (Zcp n) n a0 a1
def Zge (n:Nat) (a0:Ty) (a1:Vl):Option Bool :=
 (ZhS n a1).bind fun y3 =>
 if decide (y3=0) then
  (Zcp n a0 a1).bind fun y5 =>
  some (y5)
 else
  some (false)
def Zbq (a0:Ty) (a1:Int) (a2:Int):Bool :=
 ((decide (a1≤a0.min))&&(decide (a0.max≤a2)))&&(decide (a0.min≤a0.max))
end Go.Proofs.YtgpmlelfkjfbiaaGreatDoor
