/-
  Part 4 of the proof: rules and walks that the claim's last text uses.
-/
import Derived.Lib.AppendZeros
import Derived.Lib.Bytealg
import Derived.Shelf.SlSortCmp.NoneTotal
import Derived.Shelf.SlSortCmp.WholeK
import Derived.Shelf.SlicesE.Clone
import Derived.Shelf.Spec.SlicesInsertGrow
import Derived.Sort.Lot0
import Derived.Test.YtcpmjgdlioggjaaGreatDoorProg
import Derived.Test.YtcpmjgdlioggjaaGreatDoorRows
import Derived.Test.YtcpmjgdlioggjaaGreatDoorKb1
import Derived.Test.YtcpmjgdlioggjaaGreatDoorKb2
import Derived.Test.YtcpmjgdlioggjaaGreatDoorKb3
set_option linter.unusedSimpArgs false
set_option linter.unusedVariables false
set_option maxRecDepth 100000
set_option maxHeartbeats 4000000
namespace Go.Proofs.YtcpmjgdlioggjaaGreatDoor
open Go Go.RowKit Go.Ev
structure Part where
 kind:Int
 index:Int
 name:ByteArray
structure Itm where
 v:Vl
 level:Int
structure Lim where
 name:ByteArray
 low:Int
 high:Int
 bounds:Bool
 scale:Bool
 text:Bool
 list:Bool
 fields:Bool
structure Sch where
 name:ByteArray
 version:Int
 type:Ty
theorem Vl.under_mem0 (nb nr nl:Nat) (v:Vl):(∀ x∈v.cs,Under nb nr nl x)<->True:=iff_true_intro (v.under nb nr nl)
theorem Ty.under_mem0 (nb nr nl:Nat) (v:Ty):(∀ x∈v.cs,Under nb nr nl x)<->True:=iff_true_intro (v.under nb nr nl)
structure Msg where
 stamp:Int × List Int
 mass:Int
 origins:List Int
 body:Vl
structure Slt where
 key:Vl
 number:Int
 time:Int
 items:List Msg
 values:List Vl
structure Stt where
 number:Int
 time:Int
 slots:List Slt
structure Nod where
 name:ByteArray
 kind:Int
 schema:Int
 result:Int
 number:Int
 time:Int
 limit:Int
 text:ByteArray
 type:Ty
 types:List Ty
 exprs:List Ex
 mapping:List (ByteArray × Ex)
 calls:List (ByteArray × List (ByteArray × Ex))
 next:List Int
structure Inp where
 kind:Int
 time:Int
 stamp:Int × List Int
 message:Msg
 call:Int
 undo:Bool
 done:Bool
 body:Vl
structure Rqs where
 stamp:Int × List Int
 service:ByteArray
 call:Int
 undo:Bool
 body:Vl
structure Fte where
 stamp:Int × List Int
 kind:Int
 node:ByteArray
 into:List (Int × List Int)
 text:ByteArray
structure Otc where
 state:Stt
 outputs:List (Int × Msg)
 requests:List Rqs
 fates:List Fte
 letters:List Msg
structure Bld where
 n:Nod
 now:Int
 under:Int × List Int
 sent:Int
 out:Otc
def Rn {α:Type} (f:α->AV) (l:List α):AV := .list (l.map f) .none
@[go_sem] theorem A1 {α:Type} (f:α->AV) (l:List α):Rn f l = .list (l.map f) .none:=rfl
@[go_sem] theorem Zi4 {α:Type} (f:α->AV) (l:List α) (n:Nat):(l.map f).take n=(l.take n).map f:=List.map_take.symm
@[go_sem] theorem Zi7 {α:Type} (f:α->AV) (l:List α) (n:Nat):(l.map f).drop n=(l.drop n).map f:=List.map_drop.symm
attribute [go_sem] List.length_map List.take_length
@[go_sem] theorem Vl.gs (v:Vl) (l:List AV) (d:AV):(v.cs++l).getD 6 d=l.getD 0 d/\(v.cs++l).getD 7 d=l.getD 1 d/\(v.cs++l).getD 8 d=l.getD 2 d/\(v.cs++l).getD 9 d=l.getD 3 d/\(v.cs++l).getD 10 d=l.getD 4 d/\(v.cs++l).getD 11 d=l.getD 5 d/\(v.cs++l).getD 12 d=l.getD 6 d/\(v.cs++l).getD 13 d=l.getD 7 d/\(v.cs++l).getD 14 d=l.getD 8 d/\(v.cs++l).getD 15 d=l.getD 9 d:=by cases v;(repeat' apply Ac)<;>rfl
@[go_sem] theorem Vl.ds (v:Vl) (l:List AV):(v.cs++l).drop 6=l.drop 0/\(v.cs++l).drop 7=l.drop 1/\(v.cs++l).drop 8=l.drop 2/\(v.cs++l).drop 9=l.drop 3/\(v.cs++l).drop 10=l.drop 4/\(v.cs++l).drop 11=l.drop 5/\(v.cs++l).drop 12=l.drop 6/\(v.cs++l).drop 13=l.drop 7/\(v.cs++l).drop 14=l.drop 8/\(v.cs++l).drop 15=l.drop 9:=by cases v;(repeat' apply Ac)<;>rfl
@[go_sem] theorem Vl.ts (v:Vl) (l:List AV):(v.cs++l).take 7=v.cs++l.take 1/\(v.cs++l).take 8=v.cs++l.take 2/\(v.cs++l).take 9=v.cs++l.take 3/\(v.cs++l).take 10=v.cs++l.take 4/\(v.cs++l).take 11=v.cs++l.take 5/\(v.cs++l).take 12=v.cs++l.take 6/\(v.cs++l).take 13=v.cs++l.take 7/\(v.cs++l).take 14=v.cs++l.take 8/\(v.cs++l).take 15=v.cs++l.take 9:=by cases v;(repeat' apply Ac)<;>rfl
@[go_sem] theorem Ty.gs (t:Ty) (l:List AV) (d:AV):(t.cs++l).getD 7 d=l.getD 0 d/\(t.cs++l).getD 8 d=l.getD 1 d/\(t.cs++l).getD 9 d=l.getD 2 d/\(t.cs++l).getD 10 d=l.getD 3 d/\(t.cs++l).getD 11 d=l.getD 4 d/\(t.cs++l).getD 12 d=l.getD 5 d/\(t.cs++l).getD 13 d=l.getD 6 d/\(t.cs++l).getD 14 d=l.getD 7 d/\(t.cs++l).getD 15 d=l.getD 8 d/\(t.cs++l).getD 16 d=l.getD 9 d/\(t.cs++l).getD 17 d=l.getD 10 d/\(t.cs++l).getD 18 d=l.getD 11 d/\(t.cs++l).getD 19 d=l.getD 12 d/\(t.cs++l).getD 20 d=l.getD 13 d/\(t.cs++l).getD 21 d=l.getD 14 d/\(t.cs++l).getD 22 d=l.getD 15 d/\(t.cs++l).getD 23 d=l.getD 16 d/\(t.cs++l).getD 24 d=l.getD 17 d:=by cases t;(repeat' apply Ac)<;>rfl
@[go_sem] theorem Ty.ds (t:Ty) (l:List AV):(t.cs++l).drop 7=l.drop 0/\(t.cs++l).drop 8=l.drop 1/\(t.cs++l).drop 9=l.drop 2/\(t.cs++l).drop 10=l.drop 3/\(t.cs++l).drop 11=l.drop 4/\(t.cs++l).drop 12=l.drop 5/\(t.cs++l).drop 13=l.drop 6/\(t.cs++l).drop 14=l.drop 7/\(t.cs++l).drop 15=l.drop 8/\(t.cs++l).drop 16=l.drop 9/\(t.cs++l).drop 17=l.drop 10/\(t.cs++l).drop 18=l.drop 11/\(t.cs++l).drop 19=l.drop 12/\(t.cs++l).drop 20=l.drop 13/\(t.cs++l).drop 21=l.drop 14/\(t.cs++l).drop 22=l.drop 15/\(t.cs++l).drop 23=l.drop 16/\(t.cs++l).drop 24=l.drop 17:=by cases t;(repeat' apply Ac)<;>rfl
@[go_sem] theorem Ty.ts (t:Ty) (l:List AV):(t.cs++l).take 8=t.cs++l.take 1/\(t.cs++l).take 9=t.cs++l.take 2/\(t.cs++l).take 10=t.cs++l.take 3/\(t.cs++l).take 11=t.cs++l.take 4/\(t.cs++l).take 12=t.cs++l.take 5/\(t.cs++l).take 13=t.cs++l.take 6/\(t.cs++l).take 14=t.cs++l.take 7/\(t.cs++l).take 15=t.cs++l.take 8/\(t.cs++l).take 16=t.cs++l.take 9/\(t.cs++l).take 17=t.cs++l.take 10/\(t.cs++l).take 18=t.cs++l.take 11/\(t.cs++l).take 19=t.cs++l.take 12/\(t.cs++l).take 20=t.cs++l.take 13/\(t.cs++l).take 21=t.cs++l.take 14/\(t.cs++l).take 22=t.cs++l.take 15/\(t.cs++l).take 23=t.cs++l.take 16/\(t.cs++l).take 24=t.cs++l.take 17:=by cases t;(repeat' apply Ac)<;>rfl
@[go_sem] theorem Vl.hs (v:Vl) (l:List AV) (d:AV):(v.cs++l).getD 0 d = .val (.int .i64 v.kind)/\(v.cs++l).getD 1 d = .val (.int .i64 v.int)/\(v.cs++l).getD 2 d = .val (.int .i64 v.scale)/\(v.cs++l).getD 3 d = .val (.string v.text)/\(v.cs++l).getD 4 d = .list (DL v.list) .none/\(v.cs++l).getD 5 d = .list (It v.fields) .none:=by cases v;(repeat' apply Ac)<;>rfl
def CE (x:Int):AV:=Ag x
@[go_sem] theorem A2 (x:Int):CE x=Ag x:=rfl
@[go_sem] theorem Zhy (l:List (Int)):(∀ y∈l.map CE,y.cells.length=1)<->True:=iff_true_intro fun y a=>by
 obtain ⟨x,_,rfl⟩:=List.mem_map.1 a
 simp +decide only [go_sem]
@[go_sem] theorem ZkB (l:List (Int)):(∀ y∈l.map CE,y.cells.length=1/\A9 y=true)<->True:=iff_true_intro fun y a=>by
 obtain ⟨x,_,rfl⟩:=List.mem_map.1 a
 simp +decide only [go_sem]
@[go_sem] theorem ZhX (nb nr nl:Nat) (l:List (Int)):(∀ y∈l.map CE,Under nb nr nl y)<->True:=iff_true_intro fun y a=>by
 obtain ⟨x,_,rfl⟩:=List.mem_map.1 a
 exact .val _
@[go_sem] theorem ZjC (l:List (Int)):(l.map CE).map AV.pub=l.map CE:=by
 rw [List.map_map]
 refine List.map_congr_left fun x _=>?_
 simp +decide only [Function.comp,go_sem]
def avB (x:Bool):AV := .val (.bool x)
@[go_sem] theorem A0 (x:Bool):avB x = .val (.bool x):=rfl
@[go_sem] theorem ZhL (l:List (Bool)):(∀ y∈l.map avB,y.cells.length=1)<->True:=iff_true_intro fun y a=>by
 obtain ⟨x,_,rfl⟩:=List.mem_map.1 a
 simp +decide only [go_sem]
@[go_sem] theorem ZkQ (l:List (Bool)):(∀ y∈l.map avB,y.cells.length=1/\A9 y=true)<->True:=iff_true_intro fun y a=>by
 obtain ⟨x,_,rfl⟩:=List.mem_map.1 a
 simp +decide only [go_sem]
@[go_sem] theorem ZhW (nb nr nl:Nat) (l:List (Bool)):(∀ y∈l.map avB,Under nb nr nl y)<->True:=iff_true_intro fun y a=>by
 obtain ⟨x,_,rfl⟩:=List.mem_map.1 a
 exact .val _
@[go_sem] theorem Zkf (l:List (Bool)):(l.map avB).map AV.pub=l.map avB:=by
 rw [List.map_map]
 refine List.map_congr_left fun x _=>?_
 simp +decide only [Function.comp,go_sem]
def RX (x:ByteArray):AV := .val (.string x)
@[go_sem] theorem AY (x:ByteArray):RX x = .val (.string x):=rfl
@[go_sem] theorem Zhm (l:List (ByteArray)):(∀ y∈l.map RX,y.cells.length=1)<->True:=iff_true_intro fun y a=>by
 obtain ⟨x,_,rfl⟩:=List.mem_map.1 a
 simp +decide only [go_sem]
@[go_sem] theorem ZkP (l:List (ByteArray)):(∀ y∈l.map RX,y.cells.length=1/\A9 y=true)<->True:=iff_true_intro fun y a=>by
 obtain ⟨x,_,rfl⟩:=List.mem_map.1 a
 simp +decide only [go_sem]
@[go_sem] theorem ZhK (nb nr nl:Nat) (l:List (ByteArray)):(∀ y∈l.map RX,Under nb nr nl y)<->True:=iff_true_intro fun y a=>by
 obtain ⟨x,_,rfl⟩:=List.mem_map.1 a
 exact .val _
@[go_sem] theorem ZjP (l:List (ByteArray)):(l.map RX).map AV.pub=l.map RX:=by
 rw [List.map_map]
 refine List.map_congr_left fun x _=>?_
 simp +decide only [Function.comp,go_sem]
def B6 (x:Vl):AV := .agg x.cs
@[go_sem] theorem A3 (x:Vl):B6 x = .agg x.cs:=rfl
@[go_sem] theorem Zhz (l:List (Vl)):(∀ y∈l.map B6,y.cells.length=6)<->True:=iff_true_intro fun y a=>by
 obtain ⟨x,_,rfl⟩:=List.mem_map.1 a
 simp +decide only [go_sem]
@[go_sem] theorem ZkD (l:List (Vl)):(∀ y∈l.map B6,y.cells.length=6/\A9 y=true)<->True:=iff_true_intro fun y a=>by
 obtain ⟨x,_,rfl⟩:=List.mem_map.1 a
 simp +decide only [go_sem]
@[go_sem] theorem ZhI (nb nr nl:Nat) (l:List (Vl)):(∀ y∈l.map B6,Under nb nr nl y)<->True:=iff_true_intro fun y a=>by
 obtain ⟨x,_,rfl⟩:=List.mem_map.1 a
 exact .agg (x.under _ _ _)
@[go_sem] theorem ZjI (l:List (Vl)):(l.map B6).map AV.pub=l.map B6:=by
 rw [List.map_map]
 refine List.map_congr_left fun x _=>?_
 simp +decide only [Function.comp,go_sem]
def JX (x:Ty):AV := .agg x.cs
@[go_sem] theorem AZ (x:Ty):JX x = .agg x.cs:=rfl
@[go_sem] theorem Zh8 (l:List (Ty)):(∀ y∈l.map JX,y.cells.length=7)<->True:=iff_true_intro fun y a=>by
 obtain ⟨x,_,rfl⟩:=List.mem_map.1 a
 simp +decide only [go_sem]
@[go_sem] theorem ZkV (l:List (Ty)):(∀ y∈l.map JX,y.cells.length=7/\A9 y=true)<->True:=iff_true_intro fun y a=>by
 obtain ⟨x,_,rfl⟩:=List.mem_map.1 a
 simp +decide only [go_sem]
@[go_sem] theorem Zhx (nb nr nl:Nat) (l:List (Ty)):(∀ y∈l.map JX,Under nb nr nl y)<->True:=iff_true_intro fun y a=>by
 obtain ⟨x,_,rfl⟩:=List.mem_map.1 a
 exact .agg (x.under _ _ _)
@[go_sem] theorem Zkj (l:List (Ty)):(l.map JX).map AV.pub=l.map JX:=by
 rw [List.map_map]
 refine List.map_congr_left fun x _=>?_
 simp +decide only [Function.comp,go_sem]
def B7 (x:ByteArray × Vl):AV := .agg (.val (.string x.1)::x.2.cs)
@[go_sem] theorem AX (x:ByteArray × Vl):B7 x = .agg (.val (.string x.1)::x.2.cs):=rfl
@[go_sem] theorem Zho (l:List (ByteArray × Vl)):(∀ y∈l.map B7,y.cells.length=7)<->True:=iff_true_intro fun y a=>by
 obtain ⟨x,_,rfl⟩:=List.mem_map.1 a
 simp +decide only [go_sem]
@[go_sem] theorem Zky (l:List (ByteArray × Vl)):(∀ y∈l.map B7,y.cells.length=7/\A9 y=true)<->True:=iff_true_intro fun y a=>by
 obtain ⟨x,_,rfl⟩:=List.mem_map.1 a
 simp +decide only [go_sem]
@[go_sem] theorem Zad (nb nr nl:Nat) (l:List (ByteArray × Vl)):(∀ y∈l.map B7,Under nb nr nl y)<->True:=iff_true_intro fun y a=>by
 obtain ⟨x,_,rfl⟩:=List.mem_map.1 a
 exact Kq nb nr nl [x] _ (by simp [It,B7])
@[go_sem] theorem Zfa (l:List (ByteArray × Vl)):(l.map B7).map AV.pub=l.map B7:=by
 rw [List.map_map]
 refine List.map_congr_left fun x _=>?_
 simp +decide only [Function.comp,go_sem]
def Gl (x:Int × ByteArray × Int × Ty × List Vl):AV := .agg (Ag x.1 :: .val (.string x.2.1)::Ag x.2.2.1::(x.2.2.2.1.cs++[.list (x.2.2.2.2.map B6) .none]))
@[go_sem] theorem AN (x:Int × ByteArray × Int × Ty × List Vl):Gl x = .agg (Ag x.1 :: .val (.string x.2.1)::Ag x.2.2.1::(x.2.2.2.1.cs++[.list (x.2.2.2.2.map B6) .none])):=rfl
@[go_sem] theorem ZgX (l:List (Int × ByteArray × Int × Ty × List Vl)):(∀ y∈l.map Gl,y.cells.length=11)<->True:=iff_true_intro fun y a=>by
 obtain ⟨x,_,rfl⟩:=List.mem_map.1 a
 simp +decide only [go_sem]
@[go_sem] theorem Zj4 (l:List (Int × ByteArray × Int × Ty × List Vl)):(∀ y∈l.map Gl,y.cells.length=11/\A9 y=true)<->True:=iff_true_intro fun y a=>by
 obtain ⟨x,_,rfl⟩:=List.mem_map.1 a
 simp +decide only [go_sem]
@[go_sem] theorem Zgh (nb nr nl:Nat) (l:List (Int × ByteArray × Int × Ty × List Vl)):(∀ y∈l.map Gl,Under nb nr nl y)<->True:=iff_true_intro fun y a=>by
 obtain ⟨x,_,rfl⟩:=List.mem_map.1 a
 exact Ja nb nr nl [x] _ (by simp [HV,Gl,EG];intros;rfl)
@[go_sem] theorem Zi2 (l:List (Int × ByteArray × Int × Ty × List Vl)):(l.map Gl).map AV.pub=l.map Gl:=by
 rw [List.map_map]
 refine List.map_congr_left fun x _=>?_
 simp +decide only [Function.comp,go_sem]
def UW (x:Sch):AV := .agg (.val (.string x.name)::Ag x.version::x.type.cs)
@[go_sem] theorem Ax (x:Sch):UW x = .agg (.val (.string x.name)::Ag x.version::x.type.cs):=rfl
@[go_sem] theorem ZfT (l:List (Sch)):(∀ y∈l.map UW,y.cells.length=9)<->True:=iff_true_intro fun y a=>by
 obtain ⟨x,_,rfl⟩:=List.mem_map.1 a
 simp +decide only [go_sem]
@[go_sem] theorem ZiK (l:List (Sch)):(∀ y∈l.map UW,y.cells.length=9/\A9 y=true)<->True:=iff_true_intro fun y a=>by
 obtain ⟨x,_,rfl⟩:=List.mem_map.1 a
 simp +decide only [go_sem]
@[go_sem] theorem ZfN (nb nr nl:Nat) (l:List (Sch)):(∀ y∈l.map UW,Under nb nr nl y)<->True:=iff_true_intro fun y a=>by
 obtain ⟨x,_,rfl⟩:=List.mem_map.1 a
 simp only [Ax,Db,List.mem_cons,forall_eq_or_imp,DX,true_and];exact x.type.under _ _ _
@[go_sem] theorem ZhV (l:List (Sch)):(l.map UW).map AV.pub=l.map UW:=by
 rw [List.map_map]
 refine List.map_congr_left fun x _=>?_
 simp +decide only [Function.comp,go_sem]
def UZ (x:Itm):AV := .agg (x.v.cs++[Ag x.level])
@[go_sem] theorem Az (x:Itm):UZ x = .agg (x.v.cs++[Ag x.level]):=rfl
@[go_sem] theorem ZfW (l:List (Itm)):(∀ y∈l.map UZ,y.cells.length=7)<->True:=iff_true_intro fun y a=>by
 obtain ⟨x,_,rfl⟩:=List.mem_map.1 a
 simp +decide only [go_sem]
@[go_sem] theorem Zjg (l:List (Itm)):(∀ y∈l.map UZ,y.cells.length=7/\A9 y=true)<->True:=iff_true_intro fun y a=>by
 obtain ⟨x,_,rfl⟩:=List.mem_map.1 a
 simp +decide only [go_sem]
@[go_sem] theorem ZfQ (nb nr nl:Nat) (l:List (Itm)):(∀ y∈l.map UZ,Under nb nr nl y)<->True:=iff_true_intro fun y a=>by
 obtain ⟨x,_,rfl⟩:=List.mem_map.1 a
 simp only [Az,Db,List.mem_append,List.mem_singleton];rintro z (hz | rfl);exact x.v.under _ _ _ z hz;exact .val _
@[go_sem] theorem ZhP (l:List (Itm)):(l.map UZ).map AV.pub=l.map UZ:=by
 rw [List.map_map]
 refine List.map_congr_left fun x _=>?_
 simp +decide only [Function.comp,go_sem]
def Vn (x:Lim):AV := .agg [.val (.string x.name),Ag x.low,Ag x.high,.val (.bool x.bounds),.val (.bool x.scale),.val (.bool x.text),.val (.bool x.list),.val (.bool x.fields)]
@[go_sem] theorem AH (x:Lim):Vn x = .agg [.val (.string x.name),Ag x.low,Ag x.high,.val (.bool x.bounds),.val (.bool x.scale),.val (.bool x.text),.val (.bool x.list),.val (.bool x.fields)]:=rfl
@[go_sem] theorem Zg9 (l:List (Lim)):(∀ y∈l.map Vn,y.cells.length=8)<->True:=iff_true_intro fun y a=>by
 obtain ⟨x,_,rfl⟩:=List.mem_map.1 a
 simp +decide only [go_sem]
@[go_sem] theorem ZjJ (l:List (Lim)):(∀ y∈l.map Vn,y.cells.length=8/\A9 y=true)<->True:=iff_true_intro fun y a=>by
 obtain ⟨x,_,rfl⟩:=List.mem_map.1 a
 simp +decide only [go_sem]
@[go_sem] theorem Zge (nb nr nl:Nat) (l:List (Lim)):(∀ y∈l.map Vn,Under nb nr nl y)<->True:=iff_true_intro fun y a=>by
 obtain ⟨x,_,rfl⟩:=List.mem_map.1 a
 simp +decide only [go_sem];try intro z b;simp_all [Vl.under,Ty.under]
@[go_sem] theorem Zit (l:List (Lim)):(l.map Vn).map AV.pub=l.map Vn:=by
 rw [List.map_map]
 refine List.map_congr_left fun x _=>?_
 simp +decide only [Function.comp,go_sem]
def Zz (x:ByteArray × Int):AV := .agg [.val (.string x.1),Ag x.2]
@[go_sem] theorem AM (x:ByteArray × Int):Zz x = .agg [.val (.string x.1),Ag x.2]:=rfl
@[go_sem] theorem ZgI (l:List (ByteArray × Int)):(∀ y∈l.map Zz,y.cells.length=2)<->True:=iff_true_intro fun y a=>by
 obtain ⟨x,_,rfl⟩:=List.mem_map.1 a
 simp +decide only [go_sem]
@[go_sem] theorem Zkr (l:List (ByteArray × Int)):(∀ y∈l.map Zz,y.cells.length=2/\A9 y=true)<->True:=iff_true_intro fun y a=>by
 obtain ⟨x,_,rfl⟩:=List.mem_map.1 a
 simp +decide only [go_sem]
@[go_sem] theorem Zgl (nb nr nl:Nat) (l:List (ByteArray × Int)):(∀ y∈l.map Zz,Under nb nr nl y)<->True:=iff_true_intro fun y a=>by
 obtain ⟨x,_,rfl⟩:=List.mem_map.1 a
 simp +decide only [go_sem];try intro z b;simp_all [Vl.under,Ty.under]
@[go_sem] theorem ZiA (l:List (ByteArray × Int)):(l.map Zz).map AV.pub=l.map Zz:=by
 rw [List.map_map]
 refine List.map_congr_left fun x _=>?_
 simp +decide only [Function.comp,go_sem]
def ZG (x:Ty × Ty):AV := .agg (x.1.cs++x.2.cs)
@[go_sem] theorem AL (x:Ty × Ty):ZG x = .agg (x.1.cs++x.2.cs):=rfl
@[go_sem] theorem ZgC (l:List (Ty × Ty)):(∀ y∈l.map ZG,y.cells.length=14)<->True:=iff_true_intro fun y a=>by
 obtain ⟨x,_,rfl⟩:=List.mem_map.1 a
 simp +decide only [go_sem]
@[go_sem] theorem Zku (l:List (Ty × Ty)):(∀ y∈l.map ZG,y.cells.length=14/\A9 y=true)<->True:=iff_true_intro fun y a=>by
 obtain ⟨x,_,rfl⟩:=List.mem_map.1 a
 simp +decide only [go_sem]
@[go_sem] theorem Zf7 (nb nr nl:Nat) (l:List (Ty × Ty)):(∀ y∈l.map ZG,Under nb nr nl y)<->True:=iff_true_intro fun y a=>by
 obtain ⟨x,_,rfl⟩:=List.mem_map.1 a
 exact .agg fun z b=>(List.mem_append.1 b).elim (x.1.under _ _ _ z) (x.2.under _ _ _ z)
@[go_sem] theorem Zic (l:List (Ty × Ty)):(l.map ZG).map AV.pub=l.map ZG:=by
 rw [List.map_map]
 refine List.map_congr_left fun x _=>?_
 simp +decide only [Function.comp,go_sem]
def CY (x:Part):AV := .agg [Ag x.kind,Ag x.index,.val (.string x.name)]
@[go_sem] theorem AG (x:Part):CY x = .agg [Ag x.kind,Ag x.index,.val (.string x.name)]:=rfl
@[go_sem] theorem Zhg (l:List (Part)):(∀ y∈l.map CY,y.cells.length=3)<->True:=iff_true_intro fun y a=>by
 obtain ⟨x,_,rfl⟩:=List.mem_map.1 a
 simp +decide only [go_sem]
@[go_sem] theorem Zkb (l:List (Part)):(∀ y∈l.map CY,y.cells.length=3/\A9 y=true)<->True:=iff_true_intro fun y a=>by
 obtain ⟨x,_,rfl⟩:=List.mem_map.1 a
 simp +decide only [go_sem]
@[go_sem] theorem Zhi (nb nr nl:Nat) (l:List (Part)):(∀ y∈l.map CY,Under nb nr nl y)<->True:=iff_true_intro fun y a=>by
 obtain ⟨x,_,rfl⟩:=List.mem_map.1 a
 simp +decide only [go_sem];try intro z b;simp_all [Vl.under,Ty.under]
@[go_sem] theorem Zjo (l:List (Part)):(l.map CY).map AV.pub=l.map CY:=by
 rw [List.map_map]
 refine List.map_congr_left fun x _=>?_
 simp +decide only [Function.comp,go_sem]
def TW (x:Ex):AV := .agg x.cs
@[go_sem] theorem A5 (x:Ex):TW x = .agg x.cs:=rfl
@[go_sem] theorem Zht (l:List (Ex)):(∀ y∈l.map TW,y.cells.length=5)<->True:=iff_true_intro fun y a=>by
 obtain ⟨x,_,rfl⟩:=List.mem_map.1 a
 simp +decide only [go_sem]
@[go_sem] theorem Zkz (l:List (Ex)):(∀ y∈l.map TW,y.cells.length=5/\A9 y=true)<->True:=iff_true_intro fun y a=>by
 obtain ⟨x,_,rfl⟩:=List.mem_map.1 a
 simp +decide only [go_sem]
@[go_sem] theorem Zhu (nb nr nl:Nat) (l:List (Ex)):(∀ y∈l.map TW,Under nb nr nl y)<->True:=iff_true_intro fun y a=>by
 obtain ⟨x,_,rfl⟩:=List.mem_map.1 a
 exact .agg (x.under _ _ _)
@[go_sem] theorem ZjB (l:List (Ex)):(l.map TW).map AV.pub=l.map TW:=by
 rw [List.map_map]
 refine List.map_congr_left fun x _=>?_
 simp +decide only [Function.comp,go_sem]
def Do (x:ByteArray × Ex):AV := .agg (.val (.string x.1)::x.2.cs)
@[go_sem] theorem AK (x:ByteArray × Ex):Do x = .agg (.val (.string x.1)::x.2.cs):=rfl
@[go_sem] theorem ZgU (l:List (ByteArray × Ex)):(∀ y∈l.map Do,y.cells.length=6)<->True:=iff_true_intro fun y a=>by
 obtain ⟨x,_,rfl⟩:=List.mem_map.1 a
 simp +decide only [go_sem]
@[go_sem] theorem Zkk (l:List (ByteArray × Ex)):(∀ y∈l.map Do,y.cells.length=6/\A9 y=true)<->True:=iff_true_intro fun y a=>by
 obtain ⟨x,_,rfl⟩:=List.mem_map.1 a
 simp +decide only [go_sem]
@[go_sem] theorem Zhc (nb nr nl:Nat) (l:List (ByteArray × Ex)):(∀ y∈l.map Do,Under nb nr nl y)<->True:=iff_true_intro fun y a=>by
 obtain ⟨x,_,rfl⟩:=List.mem_map.1 a
 exact .agg fun z b=>(List.mem_cons.1 b).elim (fun e=>e ▸ .val _) (x.2.under _ _ _ z)
@[go_sem] theorem ZiI (l:List (ByteArray × Ex)):(l.map Do).map AV.pub=l.map Do:=by
 rw [List.map_map]
 refine List.map_congr_left fun x _=>?_
 simp +decide only [Function.comp,go_sem]
def avM (x:List (ByteArray × Ex)):AV := .agg [.list (x.map Do) .none]
@[go_sem] theorem A6 (x:List (ByteArray × Ex)):avM x = .agg [.list (x.map Do) .none]:=rfl
@[go_sem] theorem Zh5 (l:List (List (ByteArray × Ex))):(∀ y∈l.map avM,y.cells.length=1)<->True:=iff_true_intro fun y a=>by
 obtain ⟨x,_,rfl⟩:=List.mem_map.1 a
 simp +decide only [go_sem]
@[go_sem] theorem ZkU (l:List (List (ByteArray × Ex))):(∀ y∈l.map avM,y.cells.length=1/\A9 y=true)<->True:=iff_true_intro fun y a=>by
 obtain ⟨x,_,rfl⟩:=List.mem_map.1 a
 simp +decide only [go_sem]
@[go_sem] theorem ZhS (nb nr nl:Nat) (l:List (List (ByteArray × Ex))):(∀ y∈l.map avM,Under nb nr nl y)<->True:=iff_true_intro fun y a=>by
 obtain ⟨x,_,rfl⟩:=List.mem_map.1 a
 simp +decide only [go_sem]
@[go_sem] theorem Zko (l:List (List (ByteArray × Ex))):(l.map avM).map AV.pub=l.map avM:=by
 rw [List.map_map]
 refine List.map_congr_left fun x _=>?_
 simp +decide only [Function.comp,go_sem]
def LD (x:Int × List Int):AV := .agg [Ag x.1,.list (x.2.map CE) .none]
@[go_sem] theorem Zei (x:Int × List Int):LD x = .agg [Ag x.1,.list (x.2.map CE) .none]:=rfl
@[go_sem] theorem Zg1 (l:List (Int × List Int)):(∀ y∈l.map LD,y.cells.length=2)<->True:=iff_true_intro fun y a=>by
 obtain ⟨x,_,rfl⟩:=List.mem_map.1 a
 simp +decide only [go_sem]
@[go_sem] theorem Zkw (l:List (Int × List Int)):(∀ y∈l.map LD,y.cells.length=2/\A9 y=true)<->True:=iff_true_intro fun y a=>by
 obtain ⟨x,_,rfl⟩:=List.mem_map.1 a
 simp +decide only [go_sem]
@[go_sem] theorem Zgb (nb nr nl:Nat) (l:List (Int × List Int)):(∀ y∈l.map LD,Under nb nr nl y)<->True:=iff_true_intro fun y a=>by
 obtain ⟨x,_,rfl⟩:=List.mem_map.1 a
 simp only [Zei,Db,List.mem_cons,List.mem_append,List.not_mem_nil,or_false,forall_eq_or_imp,or_imp,forall_and,forall_eq,DX,true_and,and_true,Vl.under_mem0 nb nr nl,Ty.under_mem0 nb nr nl];all_goals simp +decide only [go_sem]
@[go_sem] theorem ZiM (l:List (Int × List Int)):(l.map LD).map AV.pub=l.map LD:=by
 rw [List.map_map]
 refine List.map_congr_left fun x _=>?_
 simp +decide only [Function.comp,go_sem]
def Cj (x:Msg):AV := .agg (Ag x.stamp.1 :: .list (x.stamp.2.map CE) .none::Ag x.mass :: .list (x.origins.map CE) .none::x.body.cs)
@[go_sem] theorem ZeN (x:Msg):Cj x = .agg (Ag x.stamp.1 :: .list (x.stamp.2.map CE) .none::Ag x.mass :: .list (x.origins.map CE) .none::x.body.cs):=rfl
@[go_sem] theorem Zgz (l:List (Msg)):(∀ y∈l.map Cj,y.cells.length=10)<->True:=iff_true_intro fun y a=>by
 obtain ⟨x,_,rfl⟩:=List.mem_map.1 a
 simp +decide only [go_sem]
@[go_sem] theorem ZjR (l:List (Msg)):(∀ y∈l.map Cj,y.cells.length=10/\A9 y=true)<->True:=iff_true_intro fun y a=>by
 obtain ⟨x,_,rfl⟩:=List.mem_map.1 a
 simp +decide only [go_sem]
@[go_sem] theorem ZgK (nb nr nl:Nat) (l:List (Msg)):(∀ y∈l.map Cj,Under nb nr nl y)<->True:=iff_true_intro fun y a=>by
 obtain ⟨x,_,rfl⟩:=List.mem_map.1 a
 simp only [ZeN,Db,List.mem_cons,List.mem_append,List.not_mem_nil,or_false,forall_eq_or_imp,or_imp,forall_and,forall_eq,DX,true_and,and_true,Vl.under_mem0 nb nr nl,Ty.under_mem0 nb nr nl];all_goals simp +decide only [go_sem]
@[go_sem] theorem Zi5 (l:List (Msg)):(l.map Cj).map AV.pub=l.map Cj:=by
 rw [List.map_map]
 refine List.map_congr_left fun x _=>?_
 simp +decide only [Function.comp,go_sem]
def Br (x:Slt):AV := .agg (x.key.cs++[Ag x.number,Ag x.time,.list (x.items.map Cj) .none,.list (x.values.map B6) .none])
@[go_sem] theorem J3 (x:Slt):Br x = .agg (x.key.cs++[Ag x.number,Ag x.time,.list (x.items.map Cj) .none,.list (x.values.map B6) .none]):=rfl
@[go_sem] theorem Zf8 (l:List (Slt)):(∀ y∈l.map Br,y.cells.length=10)<->True:=iff_true_intro fun y a=>by
 obtain ⟨x,_,rfl⟩:=List.mem_map.1 a
 simp +decide only [go_sem]
@[go_sem] theorem ZjS (l:List (Slt)):(∀ y∈l.map Br,y.cells.length=10/\A9 y=true)<->True:=iff_true_intro fun y a=>by
 obtain ⟨x,_,rfl⟩:=List.mem_map.1 a
 simp +decide only [go_sem]
@[go_sem] theorem YP (nb nr nl:Nat) (l:List (Slt)):(∀ y∈l.map Br,Under nb nr nl y)<->True:=iff_true_intro fun y a=>by
 obtain ⟨x,_,rfl⟩:=List.mem_map.1 a
 simp only [J3,Db,List.mem_cons,List.mem_append,List.not_mem_nil,or_false,forall_eq_or_imp,or_imp,forall_and,forall_eq,DX,true_and,and_true,Vl.under_mem0 nb nr nl,Ty.under_mem0 nb nr nl];all_goals simp +decide only [go_sem]
@[go_sem] theorem Zbx (l:List (Slt)):(l.map Br).map AV.pub=l.map Br:=by
 rw [List.map_map]
 refine List.map_congr_left fun x _=>?_
 simp +decide only [Function.comp,go_sem]
def ZP (x:Stt):AV := .agg [Ag x.number,Ag x.time,.list (x.slots.map Br) .none]
@[go_sem] theorem Zej (x:Stt):ZP x = .agg [Ag x.number,Ag x.time,.list (x.slots.map Br) .none]:=rfl
@[go_sem] theorem Zg8 (l:List (Stt)):(∀ y∈l.map ZP,y.cells.length=3)<->True:=iff_true_intro fun y a=>by
 obtain ⟨x,_,rfl⟩:=List.mem_map.1 a
 simp +decide only [go_sem]
@[go_sem] theorem ZjZ (l:List (Stt)):(∀ y∈l.map ZP,y.cells.length=3/\A9 y=true)<->True:=iff_true_intro fun y a=>by
 obtain ⟨x,_,rfl⟩:=List.mem_map.1 a
 simp +decide only [go_sem]
@[go_sem] theorem Yg (nb nr nl:Nat) (l:List (Stt)):(∀ y∈l.map ZP,Under nb nr nl y)<->True:=iff_true_intro fun y a=>by
 obtain ⟨x,_,rfl⟩:=List.mem_map.1 a
 simp only [Zej,Db,List.mem_cons,List.mem_append,List.not_mem_nil,or_false,forall_eq_or_imp,or_imp,forall_and,forall_eq,DX,true_and,and_true,Vl.under_mem0 nb nr nl,Ty.under_mem0 nb nr nl];all_goals simp +decide only [go_sem]
@[go_sem] theorem Zib (l:List (Stt)):(l.map ZP).map AV.pub=l.map ZP:=by
 rw [List.map_map]
 refine List.map_congr_left fun x _=>?_
 simp +decide only [Function.comp,go_sem]
def KJ (x:ByteArray × List (ByteArray × Ex)):AV := .agg [.val (.string x.1),.list (x.2.map Do) .none]
@[go_sem] theorem ZdQ (x:ByteArray × List (ByteArray × Ex)):KJ x = .agg [.val (.string x.1),.list (x.2.map Do) .none]:=rfl
@[go_sem] theorem Zgt (l:List (ByteArray × List (ByteArray × Ex))):(∀ y∈l.map KJ,y.cells.length=2)<->True:=iff_true_intro fun y a=>by
 obtain ⟨x,_,rfl⟩:=List.mem_map.1 a
 simp +decide only [go_sem]
@[go_sem] theorem ZjM (l:List (ByteArray × List (ByteArray × Ex))):(∀ y∈l.map KJ,y.cells.length=2/\A9 y=true)<->True:=iff_true_intro fun y a=>by
 obtain ⟨x,_,rfl⟩:=List.mem_map.1 a
 simp +decide only [go_sem]
@[go_sem] theorem Zhd (nb nr nl:Nat) (l:List (ByteArray × List (ByteArray × Ex))):(∀ y∈l.map KJ,Under nb nr nl y)<->True:=iff_true_intro fun y a=>by
 obtain ⟨x,_,rfl⟩:=List.mem_map.1 a
 simp only [ZdQ,Db,List.mem_cons,List.mem_append,List.not_mem_nil,or_false,forall_eq_or_imp,or_imp,forall_and,forall_eq,DX,true_and,and_true,Vl.under_mem0 nb nr nl,Ty.under_mem0 nb nr nl];all_goals simp +decide only [go_sem]
@[go_sem] theorem Zjq (l:List (ByteArray × List (ByteArray × Ex))):(l.map KJ).map AV.pub=l.map KJ:=by
 rw [List.map_map]
 refine List.map_congr_left fun x _=>?_
 simp +decide only [Function.comp,go_sem]
def ZA (x:Nod):AV := .agg (.val (.string x.name)::Ag x.kind::Ag x.schema::Ag x.result::Ag x.number::Ag x.time::Ag x.limit :: .val (.string x.text)::(x.type.cs++[.list (x.types.map JX) .none,.list (x.exprs.map TW) .none,.list (x.mapping.map Do) .none,.list (x.calls.map KJ) .none,.list (x.next.map CE) .none]))
@[go_sem] theorem Zd3 (x:Nod):ZA x = .agg (.val (.string x.name)::Ag x.kind::Ag x.schema::Ag x.result::Ag x.number::Ag x.time::Ag x.limit :: .val (.string x.text)::(x.type.cs++[.list (x.types.map JX) .none,.list (x.exprs.map TW) .none,.list (x.mapping.map Do) .none,.list (x.calls.map KJ) .none,.list (x.next.map CE) .none])):=rfl
@[go_sem] theorem Zg5 (l:List (Nod)):(∀ y∈l.map ZA,y.cells.length=20)<->True:=iff_true_intro fun y a=>by
 obtain ⟨x,_,rfl⟩:=List.mem_map.1 a
 simp +decide only [go_sem]
@[go_sem] theorem ZjV (l:List (Nod)):(∀ y∈l.map ZA,y.cells.length=20/\A9 y=true)<->True:=iff_true_intro fun y a=>by
 obtain ⟨x,_,rfl⟩:=List.mem_map.1 a
 simp +decide only [go_sem]
@[go_sem] theorem Yd (nb nr nl:Nat) (l:List (Nod)):(∀ y∈l.map ZA,Under nb nr nl y)<->True:=iff_true_intro fun y a=>by
 obtain ⟨x,_,rfl⟩:=List.mem_map.1 a
 simp only [Zd3,Db,List.mem_cons,List.mem_append,List.not_mem_nil,or_false,forall_eq_or_imp,or_imp,forall_and,forall_eq,DX,true_and,and_true,Vl.under_mem0 nb nr nl,Ty.under_mem0 nb nr nl];all_goals simp +decide only [go_sem]
@[go_sem] theorem ZiQ (l:List (Nod)):(l.map ZA).map AV.pub=l.map ZA:=by
 rw [List.map_map]
 refine List.map_congr_left fun x _=>?_
 simp +decide only [Function.comp,go_sem]
def KN (x:Int × Msg):AV := .agg (Ag x.1::Ag x.2.stamp.1 :: .list (x.2.stamp.2.map CE) .none::Ag x.2.mass :: .list (x.2.origins.map CE) .none::x.2.body.cs)
@[go_sem] theorem Zfj (x:Int × Msg):KN x = .agg (Ag x.1::Ag x.2.stamp.1 :: .list (x.2.stamp.2.map CE) .none::Ag x.2.mass :: .list (x.2.origins.map CE) .none::x.2.body.cs):=rfl
@[go_sem] theorem ZgW (l:List (Int × Msg)):(∀ y∈l.map KN,y.cells.length=11)<->True:=iff_true_intro fun y a=>by
 obtain ⟨x,_,rfl⟩:=List.mem_map.1 a
 simp +decide only [go_sem]
@[go_sem] theorem Zks (l:List (Int × Msg)):(∀ y∈l.map KN,y.cells.length=11/\A9 y=true)<->True:=iff_true_intro fun y a=>by
 obtain ⟨x,_,rfl⟩:=List.mem_map.1 a
 simp +decide only [go_sem]
@[go_sem] theorem ZgB (nb nr nl:Nat) (l:List (Int × Msg)):(∀ y∈l.map KN,Under nb nr nl y)<->True:=iff_true_intro fun y a=>by
 obtain ⟨x,_,rfl⟩:=List.mem_map.1 a
 simp only [Zfj,Db,List.mem_cons,List.mem_append,List.not_mem_nil,or_false,forall_eq_or_imp,or_imp,forall_and,forall_eq,DX,true_and,and_true,Vl.under_mem0 nb nr nl,Ty.under_mem0 nb nr nl];all_goals simp +decide only [go_sem]
@[go_sem] theorem ZiO (l:List (Int × Msg)):(l.map KN).map AV.pub=l.map KN:=by
 rw [List.map_map]
 refine List.map_congr_left fun x _=>?_
 simp +decide only [Function.comp,go_sem]
def GQ (x:Rqs):AV := .agg (Ag x.stamp.1 :: .list (x.stamp.2.map CE) .none :: .val (.string x.service)::Ag x.call :: .val (.bool x.undo)::x.body.cs)
@[go_sem] theorem ZdS (x:Rqs):GQ x = .agg (Ag x.stamp.1 :: .list (x.stamp.2.map CE) .none :: .val (.string x.service)::Ag x.call :: .val (.bool x.undo)::x.body.cs):=rfl
@[go_sem] theorem ZgJ (l:List (Rqs)):(∀ y∈l.map GQ,y.cells.length=11)<->True:=iff_true_intro fun y a=>by
 obtain ⟨x,_,rfl⟩:=List.mem_map.1 a
 simp +decide only [go_sem]
@[go_sem] theorem Zke (l:List (Rqs)):(∀ y∈l.map GQ,y.cells.length=11/\A9 y=true)<->True:=iff_true_intro fun y a=>by
 obtain ⟨x,_,rfl⟩:=List.mem_map.1 a
 simp +decide only [go_sem]
@[go_sem] theorem Zgo (nb nr nl:Nat) (l:List (Rqs)):(∀ y∈l.map GQ,Under nb nr nl y)<->True:=iff_true_intro fun y a=>by
 obtain ⟨x,_,rfl⟩:=List.mem_map.1 a
 simp only [ZdS,Db,List.mem_cons,List.mem_append,List.not_mem_nil,or_false,forall_eq_or_imp,or_imp,forall_and,forall_eq,DX,true_and,and_true,Vl.under_mem0 nb nr nl,Ty.under_mem0 nb nr nl];all_goals simp +decide only [go_sem]
@[go_sem] theorem Zi8 (l:List (Rqs)):(l.map GQ).map AV.pub=l.map GQ:=by
 rw [List.map_map]
 refine List.map_congr_left fun x _=>?_
 simp +decide only [Function.comp,go_sem]
def Hn (x:Fte):AV := .agg [Ag x.stamp.1,.list (x.stamp.2.map CE) .none,Ag x.kind,.val (.string x.node),.list (x.into.map LD) .none,.val (.string x.text)]
@[go_sem] theorem ZdP (x:Fte):Hn x = .agg [Ag x.stamp.1,.list (x.stamp.2.map CE) .none,Ag x.kind,.val (.string x.node),.list (x.into.map LD) .none,.val (.string x.text)]:=rfl
@[go_sem] theorem ZgV (l:List (Fte)):(∀ y∈l.map Hn,y.cells.length=6)<->True:=iff_true_intro fun y a=>by
 obtain ⟨x,_,rfl⟩:=List.mem_map.1 a
 simp +decide only [go_sem]
@[go_sem] theorem ZjU (l:List (Fte)):(∀ y∈l.map Hn,y.cells.length=6/\A9 y=true)<->True:=iff_true_intro fun y a=>by
 obtain ⟨x,_,rfl⟩:=List.mem_map.1 a
 simp +decide only [go_sem]
@[go_sem] theorem Zgn (nb nr nl:Nat) (l:List (Fte)):(∀ y∈l.map Hn,Under nb nr nl y)<->True:=iff_true_intro fun y a=>by
 obtain ⟨x,_,rfl⟩:=List.mem_map.1 a
 simp only [ZdP,Db,List.mem_cons,List.mem_append,List.not_mem_nil,or_false,forall_eq_or_imp,or_imp,forall_and,forall_eq,DX,true_and,and_true,Vl.under_mem0 nb nr nl,Ty.under_mem0 nb nr nl];all_goals simp +decide only [go_sem]
@[go_sem] theorem Zix (l:List (Fte)):(l.map Hn).map AV.pub=l.map Hn:=by
 rw [List.map_map]
 refine List.map_congr_left fun x _=>?_
 simp +decide only [Function.comp,go_sem]
theorem Tf (x:ByteArray × Vl):(B7 x).pub=B7 x:=by
 have:=Zfa [x]
 simpa using this
theorem Jk (l:List (ByteArray × Vl)) (nb nr nl:Nat):∀ y∈l.flatMap fun x=>(B7 x).cells,Under nb nr nl y:=fun y a=>by
 obtain ⟨x,c,b⟩:=List.mem_flatMap.1 a
 have h:Under nb nr nl (B7 x):=(Zad nb nr nl [x]).2 trivial _ (List.mem_singleton.2 rfl)
 cases h with
 | agg h=>exact h y b
theorem Qv (x:Slt):(Br x).pub=Br x:=by
 have:=Zbx [x]
 simpa using this
theorem F7 (l:List (Slt)) (nb nr nl:Nat):∀ y∈l.flatMap fun x=>(Br x).cells,Under nb nr nl y:=fun y a=>by
 obtain ⟨x,c,b⟩:=List.mem_flatMap.1 a
 have h:Under nb nr nl (Br x):=(YP nb nr nl [x]).2 trivial _ (List.mem_singleton.2 rfl)
 cases h with
 | agg h=>exact h y b
@[go_sem] theorem Zfs (l:List (List Part)):(∀ y∈l.map (Rn CY),y.cells.length=1)<->True:=iff_true_intro fun y a=>by
 obtain ⟨x,_,rfl⟩:=List.mem_map.1 a
 simp +decide only [go_sem]
@[go_sem] theorem ZiC (l:List (List Part)):(∀ y∈l.map (Rn CY),y.cells.length=1/\A9 y=true)<->True:=iff_true_intro fun y a=>by
 obtain ⟨x,_,rfl⟩:=List.mem_map.1 a
 simp +decide only [go_sem]
@[go_sem] theorem Zfo (nb nr nl:Nat) (l:List (List Part)):(∀ y∈l.map (Rn CY),Under nb nr nl y)<->True:=iff_true_intro fun y a=>by
 obtain ⟨x,_,rfl⟩:=List.mem_map.1 a
 simp +decide only [go_sem]
@[go_sem] theorem Zhn (l:List (List Part)):(l.map (Rn CY)).map AV.pub=l.map (Rn CY):=by
 rw [List.map_map]
 refine List.map_congr_left fun x _=>?_
 simp +decide only [Function.comp,go_sem]
@[go_sem] theorem Zg6 (l:List (List ByteArray)):(∀ y∈l.map (Rn RX),y.cells.length=1)<->True:=iff_true_intro fun y a=>by
 obtain ⟨x,_,rfl⟩:=List.mem_map.1 a
 simp +decide only [go_sem]
@[go_sem] theorem Zj2 (l:List (List ByteArray)):(∀ y∈l.map (Rn RX),y.cells.length=1/\A9 y=true)<->True:=iff_true_intro fun y a=>by
 obtain ⟨x,_,rfl⟩:=List.mem_map.1 a
 simp +decide only [go_sem]
@[go_sem] theorem Zf6 (nb nr nl:Nat) (l:List (List ByteArray)):(∀ y∈l.map (Rn RX),Under nb nr nl y)<->True:=iff_true_intro fun y a=>by
 obtain ⟨x,_,rfl⟩:=List.mem_map.1 a
 simp +decide only [go_sem]
@[go_sem] theorem Ziw (l:List (List ByteArray)):(l.map (Rn RX)).map AV.pub=l.map (Rn RX):=by
 rw [List.map_map]
 refine List.map_congr_left fun x _=>?_
 simp +decide only [Function.comp,go_sem]
@[go_sem] theorem Zgg (l:List (List Int)):(∀ y∈l.map (Rn CE),y.cells.length=1)<->True:=iff_true_intro fun y a=>by
 obtain ⟨x,_,rfl⟩:=List.mem_map.1 a
 simp +decide only [go_sem]
@[go_sem] theorem Zkx (l:List (List Int)):(∀ y∈l.map (Rn CE),y.cells.length=1/\A9 y=true)<->True:=iff_true_intro fun y a=>by
 obtain ⟨x,_,rfl⟩:=List.mem_map.1 a
 simp +decide only [go_sem]
@[go_sem] theorem ZgD (nb nr nl:Nat) (l:List (List Int)):(∀ y∈l.map (Rn CE),Under nb nr nl y)<->True:=iff_true_intro fun y a=>by
 obtain ⟨x,_,rfl⟩:=List.mem_map.1 a
 simp +decide only [go_sem]
@[go_sem] theorem Zjb (l:List (List Int)):(l.map (Rn CE)).map AV.pub=l.map (Rn CE):=by
 rw [List.map_map]
 refine List.map_congr_left fun x _=>?_
 simp +decide only [Function.comp,go_sem]
@[go_sem] theorem ZiL (l:List Ex):N3 l=l.map TW:=Ot l
@[go_sem] theorem Ex.under_mem (nb nr nl:Nat) (v:Ex):(∀ x∈v.cs,Under nb nr nl x)<->True:=iff_true_intro (v.under nb nr nl)
theorem Ex.cs_eqs (v:Ex):v.cs=[Ag v.op,Ag v.int,.val (.string v.text),.list (v.value.map B6) .none,.list (v.args.map TW) .none]:=by
 cases v;rw [Ex.cs,EG,Ot];rfl
@[go_sem] theorem Ex.cs_mks (o i:Int) (t:ByteArray) (v:List Vl) (a:List Ex):(Ex.mk o i t v a).cs=[Ag o,Ag i,.val (.string t),.list (v.map B6) .none,.list (a.map TW) .none]:=Ex.cs_eqs _
@[go_sem] theorem Xa (l:List Vl):DL l=l.map B6:=EG l
@[go_sem] theorem Zbk (l:List Ty):MV l=l.map JX:=QL l
@[go_sem] theorem ZbU (l:List (ByteArray × Vl)):It l=l.map B7:=Ol l
@[go_sem] theorem Zae (l:List (Int × ByteArray × Int × Ty × List Vl)):HV l=l.map Gl:=by
 rw [Pm]
 refine List.map_congr_left fun x _=>?_
 rw [Xa];rfl
@[go_sem] theorem Zja (l:List ByteArray):(l.map fun x=>AV.val (.string x))=l.map RX:=rfl
@[go_sem] theorem Vl.under_mem (nb nr nl:Nat) (v:Vl):(∀ x∈v.cs,Under nb nr nl x)<->True:=iff_true_intro (v.under nb nr nl)
@[go_sem] theorem Ty.under_mem (nb nr nl:Nat) (v:Ty):(∀ x∈v.cs,Under nb nr nl x)<->True:=iff_true_intro (v.under nb nr nl)
@[go_sem] theorem Zf5 {α:Type} (p:α->Prop) (l m:List α):(∀ x∈l++m,p x)<->(∀ x∈l,p x)/\∀ x∈m,p x:=List.forall_mem_append
theorem rt {α:Type} {x r:α} {F G C p:Prop} (h:some x=some r) (f:F) (hcalm:C) (hO:G) (k:some x=some r->F->C->G->p:=by
  intro h hs hcalm hO
  apply BC;simp +decide only [go_sem,Nat.reduceAdd,hs]
  have hgt:=Option.some.inj h;subst hgt
  first | refine Cb hcalm rfl hO.pre (by simp +decide only [go_sem,Nat.reduceAdd]) ⟨?_,?_⟩ | refine Dq hcalm rfl hO.pre (by simp +decide only [go_sem,Nat.reduceAdd]) ⟨?_,?_⟩
  all_goals first | rfl | (simp +decide only [go_sem,Nat.reduceAdd,hs];done) | (simp +decide only [go_sem,Nat.reduceAdd,Vl.cs,Ty.cs,hs];done)):p:=k h f hcalm hO
theorem hv {p F:Prop} (f:F) (h:F->p:=by intro hs;first | rfl | (simp +decide only [go_sem,Nat.reduceAdd,hs];done) | (simp +decide only [go_sem,Nat.reduceAdd,Vl.cs,Ty.cs,hs];done)):p:=h f
theorem Ty.cs_eqs (t:Ty):t.cs=[Ag t.kind,Ag t.min,Ag t.max,Ag t.scale,.list (t.words.map RX) .none,.list (t.elem.map JX) .none,.list (t.fields.map Gl) .none]:=by
 cases t;rw [Ty.cs,Zbk,Zae];rfl
theorem Vl.cs_eqs (v:Vl):v.cs=[Ag v.kind,Ag v.int,Ag v.scale,.val (.string v.text),.list (v.list.map B6) .none,.list (v.fields.map B7) .none]:=by
 rw [v.cs_eq,Xa,ZbU]
theorem X2 (w0:World) (B:Aj) (Rw:Am) (L:An) (hT:Lib.Utf8Tabs 1 2 w0) (s:ByteArray) (hs:s.size<=maxLen) :
  ACalls Tryz.prog w0 165 [.val (.string s)] ⟨B,Rw,L⟩ fun v s'=>v = .val (.bool (Lib.validD s.data.toList))/\s'=⟨B,Rw,L⟩:=ZC w0 _ hT s hs
theorem PM (w0:World) (B:Aj) (Rw:Am) (L:An) (a b:ByteArray) :
  ACalls Tryz.prog w0 48 [.val (.string a),.val (.string b)] ⟨B,Rw,L⟩ fun v s'=>v=Ag (Ze3 a b)/\s'=⟨B,Rw,L⟩:=WV w0 _ a b
attribute [go_sem] EE C0 Ci Nat.mul_one Nat.zero_add Nat.add_zero Option.isSome_some List.getElem?_cons_zero List.getElem?_cons_succ
abbrev ALp:Prop:=(∀ (α:Type) (l m:List α),List.append l m=l++m)/\(∀ (α:Type) (a:α) (l m:List α),(a::l)++m=a::(l++m))/\∀ (α:Type) (l:List α),[]++l=l
theorem al {F:Prop} (h:F):ALp/\F:=⟨⟨fun _ _ _=>rfl,fun _ _ _ _=>rfl,fun _ _=>rfl⟩,h⟩
theorem Vl.cs_mks (k i s:Int) (t:ByteArray) (l:List Vl) (f:List (ByteArray × Vl)):(Vl.mk k i s t l f).cs=[Ag k,Ag i,Ag s,.val (.string t),.list (l.map B6) .none,.list (f.map B7) .none]:=Vl.cs_eqs _
theorem Ty.cs_mks (a b c d:Int) (w:List ByteArray) (e:List Ty) (f:List (Int × ByteArray × Int × Ty × List Vl)):(Ty.mk a b c d w e f).cs=[Ag a,Ag b,Ag c,Ag d,.list (w.map RX) .none,.list (e.map JX) .none,.list (f.map Gl) .none]:=Ty.cs_eqs _
theorem cm {F:Prop} (h:F):((∀ k i s t l f,(Vl.mk k i s t l f).cs=[Ag k,Ag i,Ag s,.val (.string t),.list (l.map B6) .none,.list (f.map B7) .none])/\∀ a b c d w e f,(Ty.mk a b c d w e f).cs=[Ag a,Ag b,Ag c,Ag d,.list (w.map RX) .none,.list (e.map JX) .none,.list (f.map Gl) .none])/\F:=⟨⟨Vl.cs_mks,Ty.cs_mks⟩,h⟩
def Av {β:Type}:Option β:=none
theorem nS {α:Type} {r:α} {p:Prop} (h:Av=some r):p:=nomatch (show (none:Option α)=some r from h)
theorem Fe {p:Prop} (h:p:=by first | rfl | simp only [List.length_append,List.length_cons,List.length_nil,List.length_map,Nat.zero_add,Nat.add_zero]):p:=h
theorem GR {p:Prop} (h:p:=by simp only [List.length_set]):p:=h
theorem kr {p:Prop} (h:p:=by kernel_rfl):p:=h
theorem px {p:Prop} (h:p:=by first | exact List.prefix_append _ _ | exact List.prefix_refl _):p:=h
theorem ap_ {p:Prop} (h:p:=by simp only [List.append_assoc,List.cons_append,List.nil_append]):p:=h
theorem nq {p:Prop} (h:p:=by first | assumption | omega | (simp only [List.length_set] at *; omega)):p:=h
theorem Rz {p:Prop} (h:p:=by first | rfl | simp only [List.flatMap_nil]):p:=h
theorem vu {p V:Prop} (v:V) (h:V->p:=by intro v;simp only [List.mem_cons,List.not_mem_nil,or_false,forall_eq_or_imp,forall_eq];exact v _ _ _ _):p:=h v
theorem Hv {p V:Prop} {Rw rows:List RowA} {l:List (Nat × Nat × Ev.Own)} {ho:Ev.Own} {v:List VE} (u:V) (hO:Owns Rw rows l ho v) (h:V->Rw.length<=rows.length->p:=by
  intro u hl
  (simp +decide only [go_sem,Nat.reduceAdd,G1])<;>(try (repeat' apply Ac))<;>first | omega | assumption | exact u _ _ _ (by omega) (by omega) (by omega)):p:=h u hO.len
theorem ln {p:Prop} {Rw rows Rw' rows':List RowA} {l l':List (Nat × Nat × Ev.Own)} {ho ho':Ev.Own} {v v':List VE} (h1:Owns Rw rows l ho v) (h2:Owns Rw' rows' l' ho' v') (h:Rw.length<=rows.length->Rw'.length<=rows'.length->p:=by intro _ _;first | exact Nat.le_refl _ | omega):p:=h h1.len h2.len
theorem dl {F p q:Prop} (m c1 c2:Nat) (L:List Nat) (f:F) {P:Program} (hm:P.follows .mixedOrders=true) {A K:Env->St->Prop} (hK:∀ e s,A e s->K e s) (k:q) (h:Tg (m,c1,c2,L)->F->P.follows .mixedOrders=true->(∀ e s,A e s->K e s)->q->p:=by
  intro tt hs hm hK hq
  refine Qo tt hm (by kernel_rfl) ?_
  rw [Ai];simp +decide only [go_sem,Nat.reduceAdd,hs]
  (repeat' with_reducible apply Ac)<;>first | (rw [Ai];simp +decide only [go_sem,Nat.reduceAdd,hs]) | (clear hq;exact cl)
  first | (refine hK _ _ ?_;exact hq) | ((repeat' apply Ac)<;>first | (refine hK _ _ ?_;exact hq) | (clear hq;exact cl))):p:=h tg f hm hK k
theorem dk {F p q:Prop} (m c1 c2:Nat) (L:List Nat) (f:F) {P:Program} (hm:P.follows .mixedOrders=true) (k:q) (h:Tg (m,c1,c2,L)->F->P.follows .mixedOrders=true->q->p:=by
  intro tt hs hm hq
  refine Qo tt hm (by kernel_rfl) ?_
  rw [Ai];simp +decide only [go_sem,Nat.reduceAdd,hs]
  first | (refine Gn ?_;exact hq) | ((repeat' apply Ac)<;>first | (refine Gn ?_;exact hq) | (clear hq;exact cl))):p:=h tg f hm k
theorem dx {F p q:Prop} (f:F) (k:q) (h:F->q->p:=by
  intro hs hq
  rw [Ai];simp +decide only [go_sem,Nat.reduceAdd,hs]
  (repeat' with_reducible apply Ac)<;>first | (rw [Ai];simp +decide only [go_sem,Nat.reduceAdd,hs]) | (clear hq;exact cl)
  first | (refine Gn ?_;exact hq) | ((repeat' apply Ac)<;>first | (refine Gn ?_;exact hq) | (clear hq;exact cl))):p:=h f k
theorem dn {F p q:Prop} (f:F) {A K:Env->St->Prop} (hK:∀ e s,A e s->K e s) (k:q) (h:F->(∀ e s,A e s->K e s)->q->p:=by
  intro hs hK hq
  rw [Ai];simp +decide only [go_sem,Nat.reduceAdd,hs]
  (repeat' with_reducible apply Ac)<;>first | (rw [Ai];simp +decide only [go_sem,Nat.reduceAdd,hs]) | (clear hq;exact cl)
  first | (refine hK _ _ ?_;exact hq) | ((repeat' apply Ac)<;>first | (refine hK _ _ ?_;exact hq) | (clear hq;exact cl))):p:=h f hK k
theorem rT {α:Type} {x r:α} {F G C p:Prop} (h:x=r) (f:F) (hcalm:C) (hO:G) (k:x=r->F->C->G->p:=by
  intro h hs hcalm hO
  apply BC;simp +decide only [go_sem,Nat.reduceAdd,hs]
  subst h
  first | refine Cb hcalm rfl hO.pre (by simp +decide only [go_sem,Nat.reduceAdd]) ⟨?_,rfl⟩ | refine Dq hcalm rfl hO.pre (by simp +decide only [go_sem,Nat.reduceAdd]) ⟨?_,rfl⟩
  first | rfl | (simp +decide only [go_sem,Nat.reduceAdd,hs];done) | (simp +decide only [go_sem,Nat.reduceAdd,Vl.cs,Ty.cs,hs];done)):p:=k h f hcalm hO
@[go_sem] abbrev T8 (x:Msg):List AV:=(Ag x.stamp.1::([.list (x.stamp.2.map CE) .none]))++(Ag x.mass::(.list (x.origins.map CE) .none::(x.body.cs)))
@[go_sem] abbrev Ll (x:Slt):List AV:=(x.key.cs)++(Ag x.number::(Ag x.time::(.list (x.items.map Cj) .none::([.list (x.values.map B6) .none]))))
@[go_sem] abbrev DR (x:Stt):List AV:=Ag x.number::(Ag x.time::([.list (x.slots.map Br) .none]))
@[go_sem] abbrev Rf (x:Nod):List AV := .val (.string x.name)::(Ag x.kind::(Ag x.schema::(Ag x.result::(Ag x.number::(Ag x.time::(Ag x.limit::(.val (.string x.text)::((x.type.cs)++(.list (x.types.map JX) .none::(.list (x.exprs.map TW) .none::(.list (x.mapping.map Do) .none::(.list (x.calls.map KJ) .none::([.list (x.next.map CE) .none])))))))))))))
@[go_sem] abbrev Xh (x:Inp):List AV:=Ag x.kind::(Ag x.time::((Ag x.stamp.1::([.list (x.stamp.2.map CE) .none]))++(((Ag x.message.stamp.1::([.list (x.message.stamp.2.map CE) .none]))++(Ag x.message.mass::(.list (x.message.origins.map CE) .none::(x.message.body.cs))))++(Ag x.call::(.val (.bool x.undo)::(.val (.bool x.done)::(x.body.cs)))))))
@[go_sem] abbrev ftL (x:Fte):List AV:=(Ag x.stamp.1::([.list (x.stamp.2.map CE) .none]))++(Ag x.kind::(.val (.string x.node)::(.list (x.into.map LD) .none::([.val (.string x.text)]))))
@[go_sem] abbrev rqL (x:Rqs):List AV:=(Ag x.stamp.1::([.list (x.stamp.2.map CE) .none]))++(.val (.string x.service)::(Ag x.call::(.val (.bool x.undo)::(x.body.cs))))
@[go_sem] abbrev ocL (x:Otc):List AV:=(Ag x.state.number::(Ag x.state.time::([.list (x.state.slots.map Br) .none])))++(.list (x.outputs.map KN) .none::(.list (x.requests.map GQ) .none::(.list (x.fates.map Hn) .none::([.list (x.letters.map Cj) .none]))))
end Go.Proofs.YtcpmjgdlioggjaaGreatDoor
namespace Go.Ev
open Go Go.RowKit Go.Shelf
section
variable {P:Program} {w0:World} {st:St}
theorem WI {M:Mem} {w w':World} {e:TypeId} {sz:Nat} {v':Value} {n:Nat} {us:Nat->Value} {xs:List AV} (hst:RelSt w0 M st w) (hb:Below w.heap.size w w') (ho:w'.ownsRow w.heap.size e sz v' n (flat us n)) (hn:xs.length=n)
  (hus:∀ i,i<n->(us i).cells.size=sz) (hR:∀ i (hi:i<xs.length),R w0 M w (us i) xs[i]):∃ M',Ext w0 M w M' w'/\RelSt w0 M' st w'/\R w0 M' w' v' (.list xs .none):=by
 subst hn
 obtain ⟨k,d⟩:=ho
 rcases d with ⟨rfl,h0⟩ | ⟨g,cap,cur,rfl,hg,hcur,hc1,hc2,hc3,hc4⟩
 ·obtain ⟨c,b⟩:=hst.later hb w.heap.size 0 (Nat.le_refl _) (.inr rfl)
  have:xs=[]:=List.length_eq_zero_iff.1 h0
  subst this
  exact ⟨_,b,c,.nil (fun id=>by simp)⟩
 ·obtain ⟨c,b⟩:=hst.later hb g (xs.length*sz) hg (.inl (Array.getElem?_eq_some_iff.1 hcur).1)
  refine ⟨_,b,c,.list sz us hc1 hc2 (fun i hi=>⟨hus i hi,fun j f=>?_⟩) (fun i hi=>(hR i hi).mono b) trivial⟩
  have a:i*sz+j<xs.length*sz:=by
   have:(i+1)*sz<=xs.length*sz:=Nat.mul_le_mul_right _ hi
   rw [Nat.succ_mul] at this;omega
  refine ⟨.inr (by simp only [Mem.newTop,if_true,Nat.zero_add];exact a),?_⟩
  have h:=Hl hus i hi j f
  rw [<-h,<-hc4,List.getElem?_take_of_lt a,Array.getElem?_toList]
  simp [World.cell?,hcur]
theorem Ya {ρ:Ren} (L:Go.Proofs.SlLaysE0.n41 P ρ) (i0:TypeInfo) (z:Value) (size bytes:Nat) (hi:P.info? (ρ.t 23)=some i0) (hz0:i0.zero=some z) (hz1:i0.size=size) (hz2:i0.bytes=bytes) (hzs:z.cells.size=size) (hsz:0<size)
  (z23:∀ w,(Go.sizeOf (ρ.t 23)).run P w = .ok size w) (a:Addr) (c:Nat) (w:World) :
  Calls P (ρ.f 41) #[.slice (some a) 0 c] w fun e w'=>∃ v',e = .returned v'/\w'.ownsRow w.heap.size (ρ.t 23) size v' 0 []/\Below w.heap.size w w':=by
 have mixed:=L.mixed;have t4:=L.t4;have a4:=L.a4;have z4:=L.z4;have v4:=L.v4;have t22:=L.t22;have a22:=L.a22;have z22:=L.z22;have v22:=L.v22
 have q22:∀ (w:World) (a:Option Addr) (n c n' c':Nat),(binOp .eql (ρ.t 22) (.slice a n c) (.slice none n' c')).run P w = .ok (.bool a.isNone) w:=fun w a n c n' c'=>Lib.run_eql_slice_nil w _ _ a n c n' c' L.t22
 have u22:∀ w,Sem.run P (underlying (ρ.t 22)) w = .ok (TypeDesc.slice (ρ.t 23)) w:=run_underlying t22
 obtain ⟨_,_,FG⟩:=L.f41
 go_enter FG,Go.Proofs.SlBodyN.n41_ntmps ρ
 go_wp2_with (at_builtin;refine wpList_append_own _ rfl _ _ (ρ.t 22) rfl w.heap.size (ρ.t 23) i0 z size bytes t22 hi hz0 hz1 hz2 hzs hsz _ _ _ rfl (World.ownsRow_made w #[] 0 (Nat.le_refl _) (Nat.zero_le _) (by simp)) a 0 c [] rfl (by simp) (by intro j u hj;simp at hj) (by intro u hu;cases hu) (by unfold maxLen;omega) (by omega) (by simp) ?_)
 intro v' w1 hown hgrow hnil
 go_wp2
 go_ret
 exact ⟨v',rfl,by simpa using hown,((Below.refl _ w).alloc (Nat.le_refl _) _).grown hgrow (by simp) (by intro k hk;simp [Value.ownBlock] at hk;omega)⟩
theorem Yf {ρ:Ren} (L:Go.Proofs.SlLaysE0.n41 P ρ) (hen:HW P (ρ.f 41)) (i0:TypeInfo) (z:Value) (size bytes:Nat) (hi:P.info? (ρ.t 23)=some i0) (hz0:i0.zero=some z) (hz1:i0.size=size) (hz2:i0.bytes=bytes) (hzs:z.cells.size=size) (hsz:0<size)
  (z23:∀ w,(Go.sizeOf (ρ.t 23)).run P w = .ok size w) {xs:List AV} {o:Own} (hx:∀ y∈xs,y.cells.length=size) (h1:∀ y∈xs,A9 y=true) (hbig:xs.length*bytes<=140737488355328) :
  ACalls P w0 (ρ.f 41) [.list xs o] st fun r s=>r = .list xs .none/\s=st:=by
 refine ⟨hen,fun M w p l h=>?_⟩
 obtain ⟨v,rfl⟩:∃ v,p = #[v]:=by
  have:=h.1
  simp only [List.length_cons,List.length_nil] at this
  exact Array.size_eq_one_iff.1 this
 have hv:R w0 M w v (.list xs o):=h.2 0 (by simp) (by simp)
 cases hv with
 | nil ho =>
  refine (Go.Proofs.AnyE.slices_Clone_nil L 0 0 w).mono ?_
  rintro en N ⟨rfl,rfl⟩
  exact ⟨_,M,_,st,rfl,⟨rfl,rfl⟩,.refl _ _ _,l,.nil (fun id=>by simp)⟩
 | @emp ad _ ho =>
  refine (Ya L i0 z size bytes hi hz0 hz1 hz2 hzs hsz z23 ad 0 w).mono ?_
  rintro en N ⟨C,rfl,c,a⟩
  obtain ⟨M',H,K,G⟩:=WI (xs:=[]) (us:=fun _=>undef) l a c rfl (fun i hi=>absurd hi (by omega)) (fun i hi=>absurd hi (by simp))
  exact ⟨C,M',_,st,rfl,⟨rfl,rfl⟩,H,K,G⟩
 | @list b off cap _ _ sz us hc hm hcell hu ho =>
  have d:∀ i,i<xs.length->(us i).cells.size=size:=fun i hi=>by
   rw [((hu i hi).cells).1];exact hx _ (List.getElem_mem _)
  have g:∀ i,i<xs.length->∀ j,j<size->w.cell? ⟨b,off+i*size+j,none⟩=(us i).cells[j]? := fun i hi j J=>by
   have e:sz=size:=((hcell i hi).1).symm.trans (d i hi)
   subst e
   exact ((hcell i hi).2 j J).2
  refine (Go.Proofs.AnyE.slices_Clone L i0 z size bytes hi hz0 hz1 hz2 hzs hsz z23 b off xs.length cap (flat us xs.length) w (Bg d) (Nat.le_trans hc hm) hbig (fun j u J=>?_) (fun u E=>?_)).mono ?_
  ·have:=EB d hsz g j u J
   rwa [Dx] at this
  ·obtain ⟨i,F,x⟩:=List.mem_flatMap.1 E
   have m:i<xs.length:=by simpa using F
   obtain ⟨k,O,rfl⟩:=List.mem_iff_getElem.1 x
   have q:=(hu i m).cells
   have n:k<(us i).cells.size:=by simpa using O
   have:=q.2 k n (by rw [<-q.1];exact n)
   rw [Array.getElem_toList]
   refine this.oneCell ((hu i m).cellsOne (fun vs D=>?_) _ (List.getElem_mem _))
   have:=h1 _ (List.getElem_mem m)
   rw [D] at this;cases this
  ·rintro en N ⟨C,rfl,c,_,a⟩
   obtain ⟨M',H,K,G⟩:=WI l a c rfl d hu
   exact ⟨C,M',_,st,rfl,⟨rfl,rfl⟩,H,K,G⟩
def UJ (P:Program) (t:TypeId) (size bytes:Nat):Bool :=
 match P.info? t with
 | some i=>(i.size == size)&&(i.bytes == bytes)&&(match i.zero with | some z=>z.cells.size == size | none=>false)
 | none=>false
theorem MH {t:TypeId} {size bytes:Nat} (h:UJ P t size bytes=true):∃ i0 z,P.info? t=some i0/\i0.zero=some z/\i0.size=size/\i0.bytes=bytes/\z.cells.size=size:=by
 unfold UJ at h
 cases hi:P.info? t with
 | none=>simp [hi] at h
 | some i =>
  simp only [hi,Bool.and_eq_true,beq_iff_eq] at h
  cases hz:i.zero with
  | none=>simp [hz] at h
  | some z =>
   simp only [hz,beq_iff_eq] at h
   exact ⟨i,z,rfl,hz,h.1.1,h.1.2,h.2⟩
theorem Rq {ρ:Ren} (L:Go.Proofs.SlLaysE0.n41 P ρ) (hen:HW P (ρ.f 41)) (size bytes:Nat) (hi:UJ P (ρ.t 23) size bytes=true) (hsz:0<size) (z23:∀ w,(Go.sizeOf (ρ.t 23)).run P w = .ok size w) {xs:List AV} {o:Own}
  (hx:∀ y∈xs,y.cells.length=size/\A9 y=true) (hbig:xs.length*bytes<=140737488355328):ACalls P w0 (ρ.f 41) [.list xs o] st fun r s=>r = .list xs .none/\s=st:=by
 obtain ⟨b,z,a1,a2,a3,a4,a5⟩:=MH hi
 exact Yf L hen b z size bytes a1 a2 a3 a4 a5 hsz z23 (fun y a=>(hx y a).1) (fun y a=>(hx y a).2) hbig
end
def LZ (n:Nat) (rows:Am):Own:=if n=0 then .full else .row rows.length
def Pl (n sz:Nat) (rows:Am):List RowA:=if n=0 then rows else rows++[.grow n sz]
theorem Owns.clone {Rw rows:List RowA} {l:List (Nat × Nat × Own)} {ho:Own} (h:Owns Rw rows l ho) (sz n:Nat):Owns Rw (Pl n sz rows) ((sz,n,LZ n rows)::l) ho:=by
 unfold Pl LZ
 by_cases q:n=0
 ·rw [Ad q,Ad q];exact h.full sz n
 ·rw [Ae q,Ae q];exact h.make sz n
theorem Owns.len1 {Rw rows:List RowA} {o ho:Own} {sz n m:Nat} (h:Owns Rw rows [(sz,n,o)] ho) (e:n=m):Owns Rw rows [(sz,m,o)] ho:=e▸h
theorem Eb {B:List (List AV)} {l i:Nat} {cs:List AV} (h:B[l]? = some cs) (hne:i≠l) :
  (∀ X R L o c,Cm ⟨B.set i c++X,R,L⟩ (.box l o)=true)/\(∀ R L o c,Cm ⟨B.set i c,R,L⟩ (.box l o)=true)/\(∀ X R L o c,Bt ⟨B.set i c++X,R,L⟩ (.box l o)=cs)/\(∀ R L o c,Bt ⟨B.set i c,R,L⟩ (.box l o)=cs) /\
  (∀ X c,(B.set i c++X)[l]? = some cs)/\(∀ c,(B.set i c)[l]? = some cs)/\(∀ X c,(B.set i c++X).getD l []=cs)/\(∀ c,(B.set i c).getD l []=cs):=by
 have a:∀ c,(B.set i c)[l]? = some cs:=fun c=>by rw [List.getElem?_set_ne hne];exact h
 refine ⟨fun X R L o c=>(AD (a c)).1 X R L o,fun R L o c=>(AD (a c)).2.1 R L o,fun X R L o c=>(AD (a c)).2.2.1 X R L o,fun R L o c=>(AD (a c)).2.2.2.1 R L o,fun X c=>(AD (a c)).2.2.2.2.1 X,a,
  fun X c=>(AD (a c)).2.2.2.2.2.2.1 X,fun c=>(AD (a c)).2.2.2.2.2.2.2.1⟩
section
variable {P:Program} {w0:World} {st:St} {M:Mem} {w:World}
theorem RelSt.adoptRow (h:RelSt w0 M st w) {w':World} (hb:Below w.heap.size w w') {g cap k sz:Nat} {cs:Array Value} {ty:TypeId} (hg:w.heap.size<=g) (hcs:w'.heap[g]? = some (.cells cs ty (0,0))) (hm:cap<=maxLen) (hk:k<=cap) (hs:cs.size=cap*sz) :
  RelSt w0 (M.addRow g cap k sz (k*sz)) { st with rows:=st.rows++[.grow k sz] } w'/\Ext w0 M w (M.addRow g cap k sz (k*sz)) w':=by
 have J:g<w'.heap.size:=(Array.getElem?_eq_some_iff.1 hcs).1
 have e:∀ b,b<w.heap.size->(M.addRow g cap k sz (k*sz)).top b=M.top b:=fun b hb=>by simp [Mem.addRow];omega
 have s:∀ x,x<w.heap.size->w'.heap[x]? = w.heap[x]? := hb.block
 have t:KeepsObj w w':=fun x o m _=>(s x (Array.getElem?_eq_some_iff.1 m).1).trans m
 have a:∀ i,i<M.NR->(M.addRow g cap k sz (k*sz)).fr i=M.fr i/\(M.addRow g cap k sz (k*sz)).blk i=M.blk i/\(M.addRow g cap k sz (k*sz)).cap i=M.cap i/\(M.addRow g cap k sz (k*sz)).rsz i=M.rsz i:=by
  intro i p
  have:¬ i=M.NR:=by omega
  simp [Mem.addRow,this]
 have D:Ext w0 M w (M.addRow g cap k sz (k*sz)) w' :=
  ⟨Nat.le_refl _,fun _ _=>rfl,Nat.le_succ _,fun i p=>by obtain ⟨a1,a2,a3,a4⟩:=a i p;exact ⟨by omega,fun _=>⟨a2,a3,a4⟩⟩,fun x O v p C=>by
   have d:=World.block_lt_of_cell? w _ C
   refine ⟨?_,p.imp id fun q=>by rw [e x d];exact q⟩
   unfold World.cell? at C ⊢
   simp only [s x d] at C ⊢
   exact C,hb.size,Nat.le_refl _,fun _ _=>rfl,fun _ m r=>absurd r (Nat.not_lt.2 m),fun x o m r _=>t x o m r,fun b q1 q=>⟨s b q1,⟨q.1,fun i p=>by
    by_cases c:i=M.NR
    ·subst c;simp only [Mem.addRow,if_true];omega
    ·have u:i<M.NR:=by simp only [Mem.addRow] at p;omega
     rw [(a i u).2.1];exact q.2.1 i u,q.2.2⟩,e b q1⟩⟩
 have F:∀ l,l<M.N->M.bx l≠g:=fun l G=>by have:=h.box_lt G;omega
 refine ⟨⟨h.below.trans (hb.mono h.base_le),h.N,by simp [Mem.addRow,h.NR],fun b K=>?_,h.inj,fun l c G=>?_,fun id y hid=>?_,fun i j p Y f=>?_,h.loop.mono D rfl t⟩,D⟩
 ·have:=hb.size
  have:(M.addRow g cap k sz (k*sz)).top b=M.top b:=by simp [Mem.addRow];omega
  rw [this]
  exact h.top b (by omega)
 ·obtain ⟨a1,a2,V,E,a3,a4,a5,a6⟩:=h.box l c G
  have d:=(Array.getElem?_eq_some_iff.1 a3).1
  exact ⟨a1,by rw [show (M.addRow g cap k sz (k*sz)).bx l=M.bx l from rfl,e _ d];exact a2,V,E,by rw [show (M.addRow g cap k sz (k*sz)).bx l=M.bx l from rfl,s _ d];exact a3,a4,a5,fun i m r=>(a6 i m r).mono D⟩
 ·by_cases e1:id=M.NR
  ·subst e1
   simp only [h.NR,List.getElem?_concat_length,Option.some.injEq] at hid
   subst hid
   have q:(M.addRow g cap k sz (k*sz)).fr M.NR=k/\(M.addRow g cap k sz (k*sz)).blk M.NR=g/\(M.addRow g cap k sz (k*sz)).cap M.NR=cap/\(M.addRow g cap k sz (k*sz)).rsz M.NR=sz/\(M.addRow g cap k sz (k*sz)).top g=k*sz:=by simp [Mem.addRow]
   obtain ⟨q1,q2,q3,q4,Z⟩:=q
   simp only [RowOk,q1,q2,q3,q4,Z]
   have U:=h.base_le
   exact ⟨trivial,trivial,by omega,trivial,F,hm,hk,cs,ty,hcs,hs⟩
  ·have n:id<M.NR:=by
    have:id<(st.rows++[RowA.grow k sz]).length:=(Af.1 hid).1
    have H:=h.NR
    simp at this
    omega
   rw [List.getElem?_append_left (by rw [<-h.NR];exact n)] at hid
   have hk:=h.row id y hid
   obtain ⟨o1,o2,Q,o4⟩:=a id n
   exact hk.keep D o1 o4 o2 Q (e _ hk.lt) hk.ne (s _ hk.lt)
 ·have H:(M.addRow g cap k sz (k*sz)).NR=M.NR+1:=rfl
  rw [H] at p Y
  have z:(M.addRow g cap k sz (k*sz)).blk M.NR=g:=by simp [Mem.addRow]
  by_cases e1:i=M.NR
  ·by_cases e2:j=M.NR
   ·omega
   ·subst e1
    rw [z,(a j (by omega)).2.1] at f
    have:=h.row_lt (i:=j) (by omega)
    omega
  ·by_cases e2:j=M.NR
   ·subst e2
    rw [z,(a i (by omega)).2.1] at f
    have:=h.row_lt (i:=i) (by omega)
    omega
   ·rw [(a i (by omega)).2.1,(a j (by omega)).2.1] at f
    exact h.rowinj i j (by omega) (by omega) f
theorem own_row {w':World} {e:TypeId} {sz:Nat} {v':Value} {n:Nat} {us:Nat->Value} {xs:List AV} (hst:RelSt w0 M st w) (hb:Below w.heap.size w w') (ho:w'.ownsRow w.heap.size e sz v' n (flat us n)) (hn:xs.length=n) (h0:n≠0)
  (hus:∀ i,i<n->(us i).cells.size=sz) (hR:∀ i (hi:i<xs.length),R w0 M w (us i) xs[i]):∃ M',Ext w0 M w M' w'/\RelSt w0 M' { st with rows:=st.rows++[.grow n sz] } w'/\R w0 M' w' v' (.list xs (.row st.rows.length)):=by
 subst hn
 obtain ⟨l,d⟩:=ho
 rcases d with ⟨rfl,h0'⟩ | ⟨g,cap,cur,rfl,hg,hcur,hc1,hc2,hc3,hc4⟩
 ·exact absurd h0' h0
 ·obtain ⟨f,c⟩:=hst.adoptRow hb hg hcur hc2 hc1 hc3
  have b:=hst.NR
  refine ⟨_,c,f,.list sz us hc1 hc2 (fun i hi=>⟨hus i hi,fun j h=>?_⟩) (fun i hi=>(hR i hi).mono c) ⟨by simp [Mem.addRow,b],by simp [Mem.addRow,b],fun _=>by simp [Mem.addRow,b]⟩⟩
  have a:i*sz+j<xs.length*sz:=by
   have:(i+1)*sz<=xs.length*sz:=Nat.mul_le_mul_right _ hi
   rw [Nat.succ_mul] at this;omega
  refine ⟨.inr (by simp only [Mem.addRow,if_true,Nat.zero_add];exact a),?_⟩
  have k:=Hl hus i hi j h
  rw [<-k,<-hc4,List.getElem?_take_of_lt a,Array.getElem?_toList]
  simp [World.cell?,hcur]
theorem Yo {ρ:Ren} (L:Go.Proofs.SlLaysE0.n41 P ρ) (i0:TypeInfo) (size:Nat) (hi:P.info? (ρ.t 23)=some i0) (hz1:i0.size=size) (z23:∀ w,(Go.sizeOf (ρ.t 23)).run P w = .ok size w) (a:Addr) (c:Nat) (w:World) :
  Calls P (ρ.f 41) #[.slice (some a) 0 c] w fun e w'=>∃ b,e = .returned (.slice (some b) 0 0)/\Below w.heap.size w w':=by
 have mixed:=L.mixed;have t4:=L.t4;have a4:=L.a4;have z4:=L.z4;have v4:=L.v4;have t22:=L.t22;have a22:=L.a22;have z22:=L.z22;have v22:=L.v22
 have q22:∀ (w:World) (a:Option Addr) (n c n' c':Nat),(binOp .eql (ρ.t 22) (.slice a n c) (.slice none n' c')).run P w = .ok (.bool a.isNone) w:=fun w a n c n' c'=>Lib.run_eql_slice_nil w _ _ a n c n' c' L.t22
 have u22:∀ w,Sem.run P (underlying (ρ.t 22)) w = .ok (TypeDesc.slice (ρ.t 23)) w:=run_underlying t22
 have hgo:∀ (w:World) (ty:TypeId) (ad:Addr),(Builtin.append_ #[ρ.t 22,ρ.t 22] ty #[.slice (some ad) 0 0,.slice (some a) 0 c]).run P w = .ok (.slice (some ad) 0 0) w:=fun w ty ad=>by
  simp [Builtin.append_,run_underlying t22,sizeOf,typeInfo,hi,hz1,storeCells,Builtin.lenOf,Builtin.firstCells,loadCells,loadCellsFrom]
 obtain ⟨_,_,FG⟩:=L.f41
 go_enter FG,Go.Proofs.SlBodyN.n41_ntmps ρ
 go_wp2_with (at_builtin;refine Lib.wpList_append_run _ rfl _ _ (ρ.t 22) (ρ.t 22) rfl _ _ rfl rfl _ _ (hgo _ _ _) ?_)
 go_wp2
 go_ret
 exact ⟨_,rfl,(Below.refl _ w).alloc (Nat.le_refl _) _⟩
theorem U7 {ρ:Ren} (L:Go.Proofs.SlLaysE0.n41 P ρ) (hen:HW P (ρ.f 41)) (size bytes:Nat) (hinf:UJ P (ρ.t 23) size bytes=true) (hsz:0<size) (z23:∀ w,(Go.sizeOf (ρ.t 23)).run P w = .ok size w) {xs:List AV} {o:Own}
  (hx:∀ y∈xs,y.cells.length=size/\A9 y=true) (hbig:xs.length*bytes<=140737488355328) :
  ACalls P w0 (ρ.f 41) [.list xs o] st fun r s=>r = .list xs (LZ xs.length st.rows)/\s={ st with rows:=Pl xs.length size st.rows }:=by
 obtain ⟨i0,z,m,O,F,Y,V⟩:=MH hinf
 refine ⟨hen,fun M w G x n=>?_⟩
 obtain ⟨v,rfl⟩:∃ v,G = #[v]:=by
  have:=n.1
  simp only [List.length_cons,List.length_nil] at this
  exact Array.size_eq_one_iff.1 this
 have hv:R w0 M w v (.list xs o):=n.2 0 (by simp) (by simp)
 have l:∀ (a:Addr) (c:Nat),xs=[]->Calls P (ρ.f 41) #[.slice (some a) 0 c] w fun en D=>∃ v M' r st',en = .returned v/\(r = .list xs (LZ xs.length st.rows)/\st'={ st with rows:=Pl xs.length size st.rows })/\Ext w0 M w M' D/\RelSt w0 M' st' D/\R w0 M' D v r:=fun a c hxs=>by
  subst hxs
  refine (Yo L i0 size m F z23 a c w).mono ?_
  rintro en D ⟨b,rfl,d⟩
  obtain ⟨r1,r2⟩:=x.later d w.heap.size 0 (Nat.le_refl _) (.inr rfl)
  exact ⟨_,_,_,st,rfl,⟨rfl,rfl⟩,r2,r1,.emp (fun id=>by simp [LZ])⟩
 cases hv with
 | nil ho =>
  refine (Go.Proofs.AnyE.slices_Clone_nil L 0 0 w).mono ?_
  rintro en D ⟨rfl,rfl⟩
  exact ⟨_,M,_,st,rfl,⟨rfl,rfl⟩,.refl _ _ _,x,.nil (fun id=>by simp [LZ])⟩
 | @emp ad _ ho=>exact l ad 0 rfl
 | @list b off cap _ _ sz us hc hm hcell hu ho =>
  by_cases h0:xs=[]
  ·have:=l ⟨b,off,none⟩ cap h0
   rw [h0]
   rw [h0] at this
   exact this
  have p:xs.length≠0:=fun q=>h0 (List.length_eq_zero_iff.1 q)
  have g:∀ i,i<xs.length->(us i).cells.size=size:=fun i m=>by
   rw [((hu i m).cells).1];exact (hx _ (List.getElem_mem _)).1
  have h:∀ i,i<xs.length->∀ j,j<size->w.cell? ⟨b,off+i*size+j,none⟩=(us i).cells[j]? := fun i m j Z=>by
   have e:sz=size:=((hcell i m).1).symm.trans (g i m)
   subst e
   exact ((hcell i m).2 j Z).2
  refine (Go.Proofs.AnyE.slices_Clone L i0 z size bytes m O F Y V hsz z23 b off xs.length cap (flat us xs.length) w (Bg g) (Nat.le_trans hc hm) hbig (fun j u Z=>?_) (fun u Q=>?_)).mono ?_
  ·have:=EB g hsz h j u Z
   rwa [Dx] at this
  ·obtain ⟨i,U,K⟩:=List.mem_flatMap.1 Q
   have C:i<xs.length:=by simpa using U
   obtain ⟨k,hk,rfl⟩:=List.mem_iff_getElem.1 K
   have H:=(hu i C).cells
   have E:k<(us i).cells.size:=by simpa using hk
   have:=H.2 k E (by rw [<-H.1];exact E)
   rw [Array.getElem_toList]
   refine this.oneCell ((hu i C).cellsOne (fun vs N=>?_) _ (List.getElem_mem _))
   have:=(hx _ (List.getElem_mem C)).2
   rw [N] at this;cases this
  ·rintro en D ⟨v',rfl,J,_,d⟩
   obtain ⟨M',x1,x2,x3⟩:=own_row x d J rfl p g hu
   refine ⟨v',M',_,_,rfl,⟨rfl,rfl⟩,x1,?_,?_⟩
   ·rw [Pl,Ae p];exact x2
   ·rw [LZ,Ae p];exact x3
end
theorem E7 {P:Program} {w0:World} {f:FuncId} {args args' cs:List AV} {st s':St} {v:AV} (h:ACalls P w0 f args' st fun r s=>r=v/\s=s') (he:(args++cs).map AV.pubA=args'):LX P w0 (.clo f cs) args st fun r t=>r=v/\t=s':=h.pub he
end Go.Ev
namespace Go.Proofs.YtcpmjgdlioggjaaGreatDoor
open Go Go.RowKit Go.Ev
def HO:Go.Shelf.Ren:=⟨fun | 41=>65 | n=>n,fun | 22=>34 | 23=>3 | 4=>4 | n=>n,fun | n=>n⟩
theorem J1:Go.Proofs.SlLaysE0.n41 Tryz.prog HO:={
 mixed:=by kernel_rfl
 f41:=⟨Tryz.f65.name,by decide,Tryz.func65.trans (congrArg some (by kernel_rfl))⟩
 t4:=Tryz.underlying4
 a4:=Tryz.isAgg4
 z4:=Tryz.sizeOf4
 v4:=Tryz.zeroValue4
 t22:=Tryz.underlying34
 a22:=Tryz.isAgg34
 z22:=Tryz.sizeOf34
 v22:=Tryz.zeroValue34 }
theorem MR (w0:World) (B:Aj) (Rw:Am) (L:An) (l:List Int) (h:l.length*8<=140737488355328) :
  ACalls Tryz.prog w0 65 [.list (l.map CE) .none] ⟨B,Rw,L⟩ fun r s=>r = .list (l.map CE) .none/\s=⟨B,Rw,L⟩ :=
 Rq (ρ:=HO) J1 (AU Tryz.func65 rfl (by decide)) 1 8 (by kernel_rfl) (by decide) Tryz.sizeOf3 (by simp +decide only [go_sem]) (by rw [List.length_map];exact h)
theorem Qp (w0:World) (B:Aj) (Rw:Am) (L:An) (l:List Int) (h:l.length*8<=140737488355328) :
  ACalls Tryz.prog w0 65 [.list (l.map CE) .none] ⟨B,Rw,L⟩ fun r s=>r = .list (l.map CE) (LZ l.length Rw)/\s=⟨B,Pl l.length 1 Rw,L⟩:=by
 have:=U7 (P:=Tryz.prog) (w0:=w0) (st:=⟨B,Rw,L⟩) (o := .none) (xs:=l.map CE) (ρ:=HO) J1 (AU Tryz.func65 rfl (by decide)) 1 8 (by kernel_rfl) (by decide) Tryz.sizeOf3 (by simp +decide only [go_sem]) (by rw [List.length_map];exact h)
 rw [List.length_map] at this
 exact this
def Jr:Go.Shelf.Ren:=⟨fun | 41=>69 | n=>n,fun | 22=>57 | 23=>60 | 4=>4 | n=>n,fun | n=>n⟩
theorem Oz:Go.Proofs.SlLaysE0.n41 Tryz.prog Jr:={
 mixed:=by kernel_rfl
 f41:=⟨Tryz.f69.name,by decide,Tryz.func69.trans (congrArg some (by kernel_rfl))⟩
 t4:=Tryz.underlying4
 a4:=Tryz.isAgg4
 z4:=Tryz.sizeOf4
 v4:=Tryz.zeroValue4
 t22:=Tryz.underlying57
 a22:=Tryz.isAgg57
 z22:=Tryz.sizeOf57
 v22:=Tryz.zeroValue57 }
theorem JH (w0:World) (B:Aj) (Rw:Am) (L:An) (l:List Vl) (h:l.length*88<=140737488355328) :
  ACalls Tryz.prog w0 69 [.list (l.map B6) .none] ⟨B,Rw,L⟩ fun r s=>r = .list (l.map B6) (LZ l.length Rw)/\s=⟨B,Pl l.length 6 Rw,L⟩:=by
 have:=U7 (P:=Tryz.prog) (w0:=w0) (st:=⟨B,Rw,L⟩) (o := .none) (xs:=l.map B6) (ρ:=Jr) Oz (AU Tryz.func69 rfl (by decide)) 6 88 (by kernel_rfl) (by decide) Tryz.sizeOf60 (by simp +decide only [go_sem]) (by rw [List.length_map];exact h)
 rw [List.length_map] at this
 exact this
def I3:Go.Shelf.Ren:=⟨fun | 41=>339 | n=>n,fun | 22=>24 | 23=>9 | 4=>4 | n=>n,fun | n=>n⟩
theorem Nn:Go.Proofs.SlLaysE0.n41 Tryz.prog I3:={
 mixed:=by kernel_rfl
 f41:=⟨Tryz.f339.name,by decide,Tryz.func339.trans (congrArg some (by kernel_rfl))⟩
 t4:=Tryz.underlying4
 a4:=Tryz.isAgg4
 z4:=Tryz.sizeOf4
 v4:=Tryz.zeroValue4
 t22:=Tryz.underlying24
 a22:=Tryz.isAgg24
 z22:=Tryz.sizeOf24
 v22:=Tryz.zeroValue24 }
theorem Pg (w0:World) (B:Aj) (Rw:Am) (L:An) (l:List ByteArray) (h:l.length*16<=140737488355328) :
  ACalls Tryz.prog w0 339 [.list (l.map RX) .none] ⟨B,Rw,L⟩ fun r s=>r = .list (l.map RX) .none/\s=⟨B,Rw,L⟩ :=
 Rq (ρ:=I3) Nn (AU Tryz.func339 rfl (by decide)) 1 16 (by kernel_rfl) (by decide) Tryz.sizeOf9 (by simp +decide only [go_sem]) (by rw [List.length_map];exact h)
end Go.Proofs.YtcpmjgdlioggjaaGreatDoor
namespace Go.Ev
open Go Go.RowKit Go.Shelf Go.Sort Go.Proofs
theorem Qg {α β:Type} {f:α->List β} {sz:Nat}:∀ {xs:List α},(∀ x∈xs,(f x).length=sz)->(xs.flatMap f).length=xs.length*sz
 | [],_=>by simp
 | x::xs,h=>by
  rw [List.flatMap_cons,List.length_append,h x (List.mem_cons_self ..),Qg (fun y a=>h y (List.mem_cons_of_mem _ a)),List.length_cons,Nat.succ_mul,Nat.add_comm]
theorem RQ {α β:Type} {f:α->List β} {sz:Nat}:∀ {xs:List α},(∀ x∈xs,(f x).length=sz)->∀ (i:Nat) (hi:i<xs.length) (j:Nat),j<sz->(xs.flatMap f)[i*sz+j]? = (f xs[i])[j]?
 | [],_,i,hi,_,_=>absurd hi (by simp)
 | x::xs,h,0,hi,j,hj=>by
  rw [List.flatMap_cons,Nat.zero_mul,Nat.zero_add,List.getElem?_append_left (by rw [h x (List.mem_cons_self ..)];exact hj)]
  rfl
 | x::xs,h,i+1,hi,j,hj=>by
  have b:=h x (List.mem_cons_self ..)
  rw [List.flatMap_cons,Nat.succ_mul,List.getElem?_append_right (by omega),b,show i*sz+sz+j-sz=i*sz+j by omega]
  exact RQ (fun y a=>h y (List.mem_cons_of_mem _ a)) i (by simpa using hi) j hj
abbrev WB:List UInt8->List UInt8->Int:=Lib.compareBytes
theorem Y0:∀ a,WB a a=0
 | []=>rfl
 | x::a=>by simp only [WB,Lib.compareBytes,UInt8.lt_irrefl,if_false];exact Y0 a
theorem R7:∀ a b,WB b a = - WB a b
 | [],[]=>rfl
 | [],_::_=>rfl
 | _::_,[]=>rfl
 | x::a,y::b=>by
  have ih:=R7 a b
  simp only [WB,Lib.compareBytes] at *
  by_cases h1:x<y
  ·have c:¬ y<x:=fun h=>by rw [UInt8.lt_iff_toNat_lt] at *; omega
   simp [h1,c]
  ·by_cases c:y<x
   ·simp [h1,c]
   ·simp only [h1,c,if_false];exact ih
theorem SY:∀ a b c,WB a b<=0->WB b c<=0->WB a c<=0/\(WB a b<0\/WB b c<0->WB a c<0)
 | [],[],c,_,h=>⟨h,fun q=>q.elim (fun q=>absurd q (by decide)) id⟩
 | [],_::_,[],_,h=>absurd (show (1:Int)<=0 from h) (by decide)
 | [],_::_,_::_,_,_=>⟨show (-1:Int)<=0 by decide,fun _=>show (-1:Int)<0 by decide⟩
 | _::_,[],c,h,_=>absurd (show (1:Int)<=0 from h) (by decide)
 | _::_,_::_,[],_,h=>absurd (show (1:Int)<=0 from h) (by decide)
 | x::a,y::b,z::c,h1,h2=>by
  have ih:=SY a b c
  simp only [WB,Lib.compareBytes,UInt8.lt_iff_toNat_lt] at *
  by_cases p1:x.toNat<y.toNat
  ·by_cases p2:y.toNat<z.toNat
   ·have:x.toNat<z.toNat:=by omega
    simp [this]
   ·by_cases p3:z.toNat<y.toNat
    ·simp [p2,p3] at h2
    ·have:x.toNat<z.toNat:=by omega
     simp [this]
  ·by_cases p4:y.toNat<x.toNat
   ·simp [p1,p4] at h1
   ·simp only [p1,p4,if_false] at h1
    by_cases p2:y.toNat<z.toNat
    ·have:x.toNat<z.toNat:=by omega
     simp [this]
    ·by_cases p3:z.toNat<y.toNat
     ·simp [p2,p3] at h2
     ·simp only [p2,p3,if_false] at h2
      have d:¬ x.toNat<z.toNat:=by omega
      have e:¬ z.toNat<x.toNat:=by omega
      simp only [p1,p4,p2,p3,d,e,if_false]
      exact ih h1 h2
theorem Zbt {α:Type} (nm:α->ByteArray):SWO (ltOf fun x y:α=>Lib.compareBytes (nm x).data.toList (nm y).data.toList) where
 irrefl x:=by simp only [ltOf,decide_eq_false_iff_not];have:=Y0 (nm x).data.toList;simp only [WB] at this;omega
 trans x y z h1 h2:=by
  simp only [ltOf,decide_eq_true_eq] at *
  exact (SY (nm x).data.toList (nm y).data.toList (nm z).data.toList (by simp only [WB];omega) (by simp only [WB];omega)).2 (.inl h1)
 ntrans x y z h1 h2:=by
  simp only [ltOf,decide_eq_false_iff_not] at *
  have a:=R7 (nm x).data.toList (nm y).data.toList
  have b:=R7 (nm y).data.toList (nm z).data.toList
  have c:=R7 (nm x).data.toList (nm z).data.toList
  have:=(SY (nm z).data.toList (nm y).data.toList (nm x).data.toList (by simp only [WB] at *; omega) (by simp only [WB] at *; omega)).1
  simp only [WB] at *
  omega
def JC (nm:Nat->ByteArray) (n:Nat):List Nat:=(pdq (ltOf fun i j:Nat=>Lib.compareBytes (nm i).data.toList (nm j).data.toList) (Array.range n) 0 n (Lib.bitLen n) true true).toList
theorem Tm (nm:Nat->ByteArray) (n:Nat):(JC nm n).Perm (List.range n)/\∀ i j,i<j->j<n->¬ Lib.compareBytes (nm ((JC nm n)[j]!)).data.toList (nm ((JC nm n)[i]!)).data.toList<0:=by
 have h:=pdq_sorts (ltOf fun i j:Nat=>Lib.compareBytes (nm i).data.toList (nm j).data.toList) (Zbt nm) (Array.range n) 0 n (Lib.bitLen n) true true (Nat.zero_le _) (by simp) (Or.inl rfl)
 obtain ⟨⟨o,p,c⟩,m⟩:=h
 have a:(pdq (ltOf fun i j:Nat=>Lib.compareBytes (nm i).data.toList (nm j).data.toList) (Array.range n) 0 n (Lib.bitLen n) true true).size=n:=by simpa using o
 refine ⟨?_,fun i j e b=>?_⟩
 ·have l:((pdq (ltOf fun i j:Nat=>Lib.compareBytes (nm i).data.toList (nm j).data.toList) (Array.range n) 0 n (Lib.bitLen n) true true).extract 0 n).toList=JC nm n:=by
   unfold JC
   rw [Array.toList_extract]
   simp only [List.extract,Nat.sub_zero,List.drop_zero]
   exact List.take_of_length_le (by rw [Array.length_toList,a];exact Nat.le_refl _)
  rw [l] at c
  have f:((Array.range n).extract 0 n).toList=List.range n:=by simp [List.extract,Array.toList_range]
  rwa [f] at c
 ·have:=m i j (Nat.zero_le _) e b
  unfold ltOf at this
  have:=of_decide_eq_false this
  unfold JC
  have g:∀ k,k<n->((pdq (ltOf fun i j:Nat=>Lib.compareBytes (nm i).data.toList (nm j).data.toList) (Array.range n) 0 n (Lib.bitLen n) true true).toList)[k]! = (pdq (ltOf fun i j:Nat=>Lib.compareBytes (nm i).data.toList (nm j).data.toList) (Array.range n) 0 n (Lib.bitLen n) true true)[k]! := fun k d=>by
   rw [getElem!_pos _ k (by rw [Array.length_toList,a];exact d),getElem!_pos _ k (by rw [a];exact d),Array.getElem_toList]
  rw [g i (by omega),g j b]
  exact this
theorem F6 (nm:Nat->ByteArray) (n:Nat):(JC nm n).length=n:=by simpa using (Tm nm n).1.length_eq
theorem ZbA (nm:Nat->ByteArray) (n:Nat):∀ i∈JC nm n,i<n:=fun i a=>by simpa using (Tm nm n).1.mem_iff.1 a
def Nv {α:Type} (nm:α->ByteArray) (d:α) (xs:List α):List α:=(JC (fun i=>nm (xs.getD i d)) xs.length).map fun i=>xs.getD i d
section
variable {P:Program} {w0:World} {st:St} {M:Mem} {w:World}
theorem RelSt.setVec (h:RelSt w0 M st w) {id ver sz:Nat} {cs cs':List AV} {w':World} (hid:st.rows[id]? = some (.vec ver sz cs)) (hb:Below w0.heap.size w w') (hoth:∀ b,b<w.heap.size->b≠M.blk id->w'.heap[b]? = w.heap[b]?)
  {c':Array Value} {ty:TypeId} (hc:w'.heap[M.blk id]? = some (.cells c' ty (0,0))) (hsz:c'.size=M.cap id*sz) (hle:cs'.length<=c'.size) (hone:∀ x∈cs',x.one=true) (hR:∀ i (h1:i<c'.size) (h2:i<cs'.length),R w0 M w c'[i] cs'[i]) :
  Ext w0 M w M w'/\RelSt w0 M { st with rows:=st.rows.set id (.vec ver sz cs') } w':=by
 have d:id<st.rows.length:=(Af.1 hid).1
 have a:id<M.NR:=by rw [h.NR];exact d
 obtain ⟨J,D,H,u,y,K,E,c,F,f8,V,Q,U,O⟩:=h.row id _ hid
 have g:KeepsObj w w':=fun b o h1 h2=>by
  have f:=(Array.getElem?_eq_some_iff.1 h1).1
  by_cases q:b=M.blk id
  ·subst q;rw [f8] at h1;cases h1;cases h2
  ·exact (hoth b f q).trans h1
 have j:Ext w0 M w M w' :=
  ⟨Nat.le_refl _,fun _ _=>rfl,Nat.le_refl _,fun _ _=>⟨Nat.le_refl _,fun _=>⟨rfl,rfl,rfl⟩⟩,fun b G v hi hv=>by
   have f:=World.block_lt_of_cell? w _ hv
   refine ⟨?_,hi⟩
   have q:b≠M.blk id:=by
    rintro rfl
    rcases hi with hi | hi
    ·omega
    ·rw [u] at hi;omega
   unfold World.cell? at hv ⊢
   simp only [hoth b f q] at hv ⊢
   exact hv,hb.size,Nat.le_refl _,fun _ _=>rfl,fun _ h1 h2=>absurd h2 (Nat.not_lt.2 h1),fun b o h1 h2 _=>g b o h1 h2,fun b q1 q=>⟨hoth b q1 (fun e=>q.2.1 id a e.symm),q,rfl⟩⟩
 refine ⟨j,h.below.trans hb,h.N,by simp [h.NR],fun b m=>h.top b (Nat.le_trans hb.size m),h.inj,fun l n z=>?_,fun i x hi=>?_,h.rowinj,h.loop.mono j rfl g⟩
 ·obtain ⟨a1,a2,C,t,a3,a4,a5,a6⟩:=h.box l n z
  have r:l<M.N:=by rw [h.N];exact (Af.1 z).1
  exact ⟨a1,a2,C,t,by rw [hoth _ (Array.getElem?_eq_some_iff.1 a3).1 (y l r)];exact a3,a4,a5,fun i h1 h2=>(a6 i h1 h2).mono j⟩
 ·by_cases q:i=id
  ·subst q
   rw [List.getElem?_set_self d] at hi
   cases hi
   exact ⟨J,D,H,u,y,K,E,c',ty,hc,hsz,hle,hone,fun i h1 h2=>(hR i h1 h2).mono j⟩
  ·rw [List.getElem?_set_ne (Ne.symm q)] at hi
   have k:i<M.NR:=by rw [h.NR];exact (Af.1 hi).1
   have s:=h.row i x hi
   have p:M.blk i≠M.blk id:=fun e=>q (h.rowinj i id k a e)
   exact s.keep j rfl rfl rfl rfl rfl s.ne (hoth _ s.lt p)
theorem Zm {ρ:Ren} (L:SlLaysF0.n6 P ρ) (hen:HW P (ρ.f 6)) (k:Nat) (aE:∀ w,(isAgg (ρ.t 24)).run P w = .ok true w) (zE:∀ w,(Go.sizeOf (ρ.t 24)).run P w = .ok (k+1) w) (g:FuncId) (hg:HW P g)
  (hcmp:∀ (s s':ByteArray) (r r':List Value) (W:World),r.length=k->r'.length=k->(∀ v∈r,v.oneCell'=true)->(∀ v∈r',v.oneCell'=true) ->
   Calls P g #[.agg (.string s::r).toArray,.agg (.string s'::r').toArray] W fun e w'=>e = .returned (.int .i64 (Lib.compareBytes s.data.toList s'.data.toList))/\∃ q os',w'=grow (W.drewN q) os')
  {α:Type} (f:α->AV) (nm:α->ByteArray) (d:α) (l:List α) (hf:∀ x,∃ r,f x = .agg (.val (.string (nm x))::r)/\r.length=k) {rid ver:Nat} (hid:st.rows[rid]? = some (.vec ver (k+1) (l.flatMap fun x=>(f x).cells))) (hn:0<l.length) (hz:l.length<4611686018427387904) :
  ACalls P w0 (ρ.f 6) [.vec rid ver 0 l.length,.clo g []] st fun r s=>r = .tup []/\s={ st with rows:=st.rows.set rid (.vec ver (k+1) ((Nv nm d l).flatMap fun x=>(f x).cells)) }:=by
 refine ⟨hen,fun M w aa ag J=>?_⟩
 obtain ⟨v0,v1,rfl⟩:∃ v0 v1,aa = #[v0,v1]:=by
  have hs:=J.1
  simp only [List.length_cons,List.length_nil] at hs
  match aa,hs with
  | ⟨[a,b]⟩,_=>exact ⟨a,b,rfl⟩
 have h0:R w0 M w v0 (.vec rid ver 0 l.length):=J.2 0 (by simp) (by simp)
 have h1:R w0 M w v1 (.clo g []):=J.2 1 (by simp) (by simp)
 obtain ⟨ap,rfl,ao⟩:=Vq h1
 have:ap = #[]:=Array.size_eq_zero_iff.1 ao.1
 subst this
 have Q:∀ x,(f x).cells.length=k+1:=fun x=>by obtain ⟨r,e,N⟩:=hf x;rw [e];simp [AV.cells,N]
 have ah:(l.flatMap fun x=>(f x).cells).length=l.length*(k+1):=Qg fun x _=>Q x
 obtain ⟨f1,f2,f3,f4,f5,f6,f7,c,ty,f8,f9,av,am,ar⟩:=ag.row rid _ hid
 cases h0 with
 | @vec _ _ _ _ p cap z hver hh =>
 obtain ⟨rfl,ax,hm⟩:=hh f1.symm
 have ad:M.blk rid<w.heap.size:=(Array.getElem?_eq_some_iff.1 f8).1
 have aw:l.length*(k+1)<=c.size:=by rw [<-ah];exact av
 -- the elements,by their number
 let enc:Nat->List Value:=fun i=>if i<l.length then (c.toList.drop (i*(k+1))).take (k+1) else .string (nm d)::List.replicate k (.int .i64 0)
 have bnd:∀ i,i<l.length->i*(k+1)+(k+1)<=c.size:=fun i z=>by
  have:(i+1)*(k+1)<=l.length*(k+1):=Nat.mul_le_mul_right _ z
  rw [Nat.succ_mul] at this;omega
 have hk:∀ i,(enc i).length=k+1:=fun i=>by
  simp only [enc];split
  ·rename_i q;have:=bnd i q;simp;omega
  ·simp
 have u:∀ i,i<l.length->∀ j,j<k+1->(enc i)[j]? = c[i*(k+1)+j]? := fun i z j hj=>by
  simp only [enc,Ad z]
  rw [List.getElem?_take_of_lt hj,List.getElem?_drop,Array.getElem?_toList]
 have cR:∀ i (z:i<l.length) j (hj:j<k+1),∃ v x,c[i*(k+1)+j]? = some v/\(f l[i]).cells[j]? = some x/\x.one=true/\R w0 M w v x:=fun i z j hj=>by
  have hb:=bnd i z
  have o:i*(k+1)+j<c.size:=by omega
  have V:i*(k+1)+j<(l.flatMap fun x=>(f x).cells).length:=by rw [ah];have:(i+1)*(k+1)<=l.length*(k+1):=Nat.mul_le_mul_right _ z;rw [Nat.succ_mul] at this;omega
  have e:=RQ (f:=fun x=>(f x).cells) (xs:=l) (fun x _=>Q x) i z j hj
  rw [List.getElem?_eq_getElem V] at e
  exact ⟨_,_,Array.getElem?_eq_getElem o,e.symm,am _ (List.getElem_mem _),ar _ o V⟩
 have H:∀ i,∀ v∈enc i,v.oneCell'=true:=fun i v hv=>by
  by_cases q:i<l.length
  ·obtain ⟨j,hj,rfl⟩:=List.mem_iff_getElem.1 hv
   have ai:j<k+1:=by rw [hk] at hj;exact hj
   obtain ⟨v,x,e1,e2,C,e4⟩:=cR i q j ai
   have:=u i q j ai
   rw [List.getElem?_eq_getElem hj,e1] at this
   cases this
   exact e4.oneCell C
  ·simp only [enc,Ae q,List.mem_cons,List.mem_replicate] at hv
   rcases hv with rfl | ⟨_,rfl⟩<;>rfl
 let nmI:Nat->ByteArray:=fun i=>nm (l.getD i d)
 have Z:∀ i,∃ r,enc i = .string (nmI i)::r/\r.length=k:=fun i=>by
  by_cases q:i<l.length
  ·obtain ⟨v,x,e1,e2,C,e4⟩:=cR i q 0 (by omega)
   obtain ⟨r,er,N⟩:=hf l[i]
   rw [er] at e2
   simp only [AV.cells,List.getElem?_cons_zero,Option.some.injEq] at e2
   subst e2
   have ev:v = .string (nm l[i]):=by cases e4;rfl
   subst ev
   have hg:=u i q 0 (by omega)
   rw [e1] at hg
   cases he:enc i with
   | nil=>rw [he] at hg;cases hg
   | cons y ys =>
    rw [he] at hg
    simp only [List.getElem?_cons_zero,Option.some.injEq] at hg
    have hl:=hk i
    rw [he] at hl
    refine ⟨ys,?_,by simpa using hl⟩
    simp only [nmI,List.getD_eq_getElem?_getD,List.getElem?_eq_getElem q,Option.getD_some,hg]
  ·exact ⟨List.replicate k (.int .i64 0),by simp only [enc,nmI,Ae q,List.getD_eq_getElem?_getD,List.getElem?_eq_none (Nat.le_of_not_lt q),Option.getD_none],by simp⟩
 let cf:Nat->Nat->Int:=fun i j=>Lib.compareBytes (nmI i).data.toList (nmI j).data.toList
 have af:CmpLays P g #[] enc (k+1) cf (M.blk rid) 0 (Array.range l.length).size w:=by
  intro m os dk ay x y
  obtain ⟨r,e1,e2⟩:=Z x
  obtain ⟨r',C,e4⟩:=Z y
  have a1:=H x
  have a2:=H y
  rw [e1] at a1
  rw [C] at a2
  have:=hcmp (nmI x) (nmI y) r r' (sortWorldK enc (k+1) w (M.blk rid) 0 m dk os) e2 e4 (fun v hv=>a1 v (List.mem_cons_of_mem _ hv)) (fun v hv=>a2 v (List.mem_cons_of_mem _ hv))
  simp only [e1,C,cf]
  exact this
 have hH:HoldsK enc (k+1) w (M.blk rid) 0 (Array.range l.length):=by
  intro t K
  rw [size_flatK,Array.size_range] at K
  rw [get_flatK _ _ _ _ (by simpa using K)]
  have E:t / (k+1)<l.length:=Nat.div_lt_of_lt_mul (by rw [Nat.mul_comm];exact K)
  have N:t % (k+1)<k+1:=Nat.mod_lt _ (by omega)
  have e1:((Array.range l.length)[t / (k+1)]! : Nat)=t / (k+1):=by simp [E]
  have e2:=u _ E _ N
  have C:t / (k+1)*(k+1)+t % (k+1)=t:=by rw [Nat.mul_comm];exact Nat.div_add_mod t (k+1)
  rw [C] at e2
  rw [e1]
  have o:t<c.size:=by omega
  have G:t % (k+1)<(enc (t / (k+1))).length:=by rw [hk];exact N
  rw [getElem!_pos (enc (t / (k+1))) _ G]
  rw [List.getElem?_eq_getElem G,Array.getElem?_eq_getElem o] at e2
  refine ⟨?_,?_⟩
  ·simp only [World.cell?,f8,Nat.zero_add,id_eq]
   rw [Array.getElem?_eq_getElem o]
   exact e2.symm
  ·simp [World.frozen?,f8]
 have hS:=AnyQ.slices_SortFunc_eq L (k+1) aE zE enc hk H cf (Zbt nmI) g #[] (M.blk rid) 0 cap (Array.range l.length) w (fun a w'=>by
   have:=hg a w'
   exact this) af hH ad (by simpa using hz)
 simp only [Array.size_range] at hS
 have e0:(some ⟨M.blk rid,0*M.rsz rid,none⟩:Option Addr)=some ⟨M.blk rid,0,none⟩:=by rw [Nat.zero_mul]
 rw [e0]
 refine hS.mono ?_
 rintro en w' ⟨rfl,m,os,rfl⟩
 -- what the sort leaves
 let D:=pdq (ltOf cf) (Array.range l.length) 0 l.length (Lib.bitLen l.length) true true
 have hD:D.toList=JC nmI l.length:=rfl
 have ak:D.size=l.length:=by rw [<-Array.length_toList,hD,F6]
 have U:∀ i,i<l.length->(D[i]! : Nat)<l.length:=fun i z=>by
  have O:i<D.size:=by omega
  rw [getElem!_pos D i O]
  exact ZbA nmI l.length _ (by rw [<-hD];exact Array.getElem_mem_toList O)
 have au:∀ i (z:i<l.length),(JC nmI l.length)[i]'(by rw [F6];exact z)=(D[i]! : Nat):=fun i z=>by
  have O:i<D.size:=by omega
  rw [getElem!_pos D i O,<-Array.getElem_toList]
  simp only [hD]
 let F:=flatK enc (k+1) D
 have hF:F.size=l.length*(k+1):=by simp only [F,size_flatK,ak]
 let c':Array Value:=putCells id 0 F c
 have ae:(Nv nm d l).length=l.length:=by simp only [Nv,List.length_map];exact F6 _ _
 have h:((Nv nm d l).flatMap fun x=>(f x).cells).length=l.length*(k+1):=by rw [Qg fun x _=>Q x,ae]
 have aj:∀ t,t<l.length*(k+1)->∃ v x,c'[t]? = some v/\((Nv nm d l).flatMap fun x=>(f x).cells)[t]? = some x/\x.one=true/\R w0 M w v x:=fun t K=>by
  have E:t / (k+1)<l.length:=Nat.div_lt_of_lt_mul (by rw [Nat.mul_comm];exact K)
  have N:t % (k+1)<k+1:=Nat.mod_lt _ (by omega)
  have C:t / (k+1)*(k+1)+t % (k+1)=t:=by rw [Nat.mul_comm];exact Nat.div_add_mod t (k+1)
  obtain ⟨v,x,e1,e2,e4,e5⟩:=cR _ (U _ E) _ N
  refine ⟨v,x,?_,?_,e4,e5⟩
  ·have o:t<c.size:=by omega
   simp only [c',putCells,Array.getElem?_mapIdx,Array.getElem?_eq_getElem o,Option.map_some,Nat.zero_add,Nat.zero_le,true_and,hF,Ad K,Nat.sub_zero,id_eq]
   simp only [F]
   rw [get_flatK _ _ _ _ (by rw [ak];exact K)]
   have G:t % (k+1)<(enc (D[t / (k+1)]!)).length:=by rw [hk];exact N
   rw [getElem!_pos (enc (D[t / (k+1)]!)) _ G,<-List.getElem?_eq_getElem G,u _ (U _ E) _ N]
   exact e1
  ·have e6:=RQ (f:=fun x=>(f x).cells) (xs:=Nv nm d l) (fun x _=>Q x) (t / (k+1)) (by rw [ae];exact E) (t % (k+1)) N
   rw [C] at e6
   rw [e6]
   have e7:(Nv nm d l)[t / (k+1)]'(by rw [ae];exact E)=l[(D[t / (k+1)]! : Nat)]'(U _ E):=by
    simp only [Nv,List.getElem_map]
    rw [show (JC (fun i=>nm (l.getD i d)) l.length)[t / (k+1)]'(by rw [F6];exact E)=(D[t / (k+1)]! : Nat) from au _ E]
    rw [List.getD_eq_getElem?_getD,List.getElem?_eq_getElem (U _ E),Option.getD_some]
   rw [e7]
   exact e2
 have Y:c'.size=c.size:=by simp [c',putCells]
 have n:(sortWorldK enc (k+1) w (M.blk rid) 0 m D os).heap=w.heap.modify (M.blk rid) (onCells (putCells id 0 F))++os:=rfl
 have ab:∀ b,b<w.heap.size->b≠M.blk rid->(sortWorldK enc (k+1) w (M.blk rid) 0 m D os).heap[b]? = w.heap[b]? := fun b hb aq=>by
  rw [n,Array.getElem?_append_left (by simpa using hb),Array.getElem?_modify,Ae (fun q=>aq q.symm)]
 obtain ⟨x1,x2⟩:=ag.setVec (c':=c') (ty:=ty) (cs':=(Nv nm d l).flatMap fun x=>(f x).cells) (w':=sortWorldK enc (k+1) w (M.blk rid) 0 m D os) hid
  ⟨rfl,rfl,rfl,by rw [n];simp,fun b hb=>ab b (Nat.lt_of_lt_of_le hb ag.base_le) (by omega)⟩ ab
  (by rw [n,Array.getElem?_append_left (by simpa using ad),Array.getElem?_modify,Ad rfl,f8];rfl) (by rw [Y];exact f9) (by rw [h,Y];exact aw)
  (fun x hx=>by
   obtain ⟨t,K,rfl⟩:=List.mem_iff_getElem.1 hx
   rw [h] at K
   obtain ⟨v,y,_,e2,C,_⟩:=aj t K
   rw [List.getElem?_eq_getElem (by rw [h];exact K)] at e2
   cases e2
   exact C)
  (fun t h1 h2=>by
   rw [h] at h2
   obtain ⟨v,y,e1,e2,_,e4⟩:=aj t h2
   rw [List.getElem?_eq_getElem (by rw [h];exact h2)] at e2
   rw [Array.getElem?_eq_getElem h1] at e1
   cases e1;cases e2
   exact e4)
 exact ⟨.tuple #[],M,.tup [],_,rfl,⟨rfl,rfl⟩,x1,x2,.tup rfl (fun i h1 _=>absurd h1 (by simp))⟩
end
structure VOne (Rw rows:Am) (sz:Nat) (xs:List AV) (x:AV):Prop where
 pre:Rw <+: rows
 calm:∀ r∈rows.drop Rw.length,∀ y∈r.cells,∀ a b c,Under a b c y
 at_:(xs=[]/\x = .list [] .seed)\/∃ id ver,x = .vec id ver 0 xs.length/\0<xs.length/\Rw.length<=id/\rows[id]? = some (.vec ver sz (xs.flatMap AV.cells))
theorem VOne.none (Rw:Am) (sz:Nat):VOne Rw Rw sz [] (.list [] .seed):=⟨List.prefix_refl _,by simp,.inl ⟨rfl,rfl⟩⟩
theorem VOne.of_eq {Rw rows:List RowA} {sz:Nat} {xs ys:List AV} {x:AV} (h:VOne Rw rows sz xs x) (he:xs=ys):VOne Rw rows sz ys x:=he▸h
theorem VOne.len {Rw rows:List RowA} {sz:Nat} {xs:List AV} {x:AV} (h:VOne Rw rows sz xs x):Rw.length<=rows.length:=h.pre.length_le
theorem VOne.under {Rw rows:List RowA} {sz:Nat} {xs:List AV} {x:AV} (h:VOne Rw rows sz xs x) (nb nl:Nat):Under nb rows.length nl x:=by
 rcases h.at_ with ⟨_,rfl⟩ | ⟨id,ver,rfl,_,_,h3⟩
 ·exact .list (by simp) trivial
 ·exact .vec (Af.1 h3).1
theorem VOne.cell {Rw rows:List RowA} {sz:Nat} {xs:List AV} {x:AV} (h:VOne Rw rows sz xs x):x.cells=[x]/\A9 x=true/\x.pubCell.pubCell=x.pubCell:=by
 rcases h.at_ with ⟨_,rfl⟩ | ⟨id,ver,rfl,_,_,h3⟩<;>exact ⟨rfl,rfl,rfl⟩
theorem VOne.append {P:Program} {t el:TypeId} {sz by8:Nat} {ag:Bool} {Rw rows:List RowA} {xs:List AV} {x y:AV} (h:VOne Rw rows sz xs x) (he:GN P t=some (el,sz,ag,by8)) (hz:(Bv P el).isSome=true) (hs:0<sz)
  (hb:(xs.length+1)*by8<=140737488355328) (hb2:xs.length+1<=4611686018427387904) (hy:y.cells.length=sz/\A9 y=true) (hp:y.pub=y) (hu:∀ c∈y.cells,∀ a b d,Under a b d c) (hxs:∀ z∈xs,z.cells.length=sz) :
  ∃ x' rows',VOne Rw rows' sz (xs++[y]) x'/\∀ (B:Aj) (L:An) (o2:Own),BE P ⟨B,rows,L⟩ t x (.list [y] o2)=(True,x',⟨B,rows',L⟩):=by
 have i:=h.len
 have g:Cc P el sz by8 xs.length [y]=True:=by
  simp only [Cc,hs,hz,List.length_singleton,hb,hb2,true_and,List.mem_singleton,forall_eq,hy,and_self]
 rcases h.at_ with ⟨rfl,rfl⟩ | ⟨id,ver,rfl,h1,h2,h3⟩
 ·refine ⟨.vec rows.length 0 0 1,rows++[.vec 0 sz y.cells],⟨h.pre.trans (List.prefix_append _ _),fun r hr z hz' a b c=>?_,.inr ⟨rows.length,0,rfl,by simp,i,by simp⟩⟩,fun B L o2=>?_⟩
  ·rw [List.drop_append_of_le_length i] at hr
   rcases List.mem_append.1 hr with hr | hr
   ·exact h.calm r hr z hz' a b c
   ·simp only [List.mem_singleton] at hr;subst hr;exact hu z hz' a b c
  ·simp only [BE,he,Be,BG,List.length_singleton,List.length_nil,List.flatMap_cons,List.flatMap_nil,List.append_nil,hp]
   rw [show Cc P el sz by8 0 [y]=True from g]
   simp
 ·have f:=(Af.1 h3).1
  have e:(xs.flatMap AV.cells).length=xs.length*sz:=Qg hxs
  refine ⟨.vec id (ver+1) 0 (xs.length+1),rows.set id (.vec (ver+1) sz (xs.flatMap AV.cells++y.cells)),⟨L1 h.pre h2 _,fun r hr z hz' a b c=>?_,.inr ⟨id,ver+1,by rw [List.length_append];rfl,by simp,h2,by simp [f,List.flatMap_append]⟩⟩,fun B L o2=>?_⟩
  ·rw [List.drop_set,Aa] at hr
   rcases List.mem_or_eq_of_mem_set hr with hr | rfl
   ·exact h.calm r hr z hz' a b c
   ·rcases List.mem_append.1 hz' with q | q
    ·exact h.calm (.vec ver sz (xs.flatMap AV.cells)) (by
      rw [List.mem_iff_getElem?]
      exact ⟨id-Rw.length,by rw [List.getElem?_drop,Nat.add_sub_cancel' h2];exact h3⟩) z q a b c
    ·exact hu z q a b c
  ·simp only [BE,he,Be,BG,List.length_singleton,List.flatMap_cons,List.flatMap_nil,List.append_nil,hp,Df,h3,if_true]
   rw [g]
   simp only [e,true_and,Nat.le_refl,and_self,Prod.mk.injEq,true_and,List.take_of_length_le (Nat.le_of_eq e)]
section
variable {P:Program} {w0:World} {n:Nat} {e:Env} {st:St} {M0:Mem} {W0:World} {ro:Option Nat} {Q:AQ} {c:Code}
theorem tdV {B0 B bs X:List (List AV)} {Rw rows:List RowA} {L:List LoopA} {sz:Nat} {xs:List AV} {x:AV} (hN:M0.N=B0.length) (hNR:M0.NR=Rw.length) (hNL:M0.NL=L.length) (hc:Calm B0.length Rw.length L.length ⟨B,Rw,L⟩) (ho:VOne Rw rows sz xs x)
  (h:CW P w0 n M0 W0 ro c Q e ⟨B++bs,rows,L⟩) (hB:B.length=B0.length:=by first | rfl | simp only [List.length_set])
  (hbs:∀ cs∈bs,∀ x∈cs,Under (B0.length+bs.length) rows.length L.length x:=by (simp +decide only [go_sem,Nat.reduceAdd])<;>(try (repeat' apply Ac))<;>first | omega | assumption)
  (he:G1 (B0.length+bs.length) rows.length L.length e:=by (simp +decide only [go_sem,Nat.reduceAdd,G1])<;>(try (repeat' apply Ac))<;>first | omega | assumption):CW P w0 n M0 W0 ro c Q e ⟨B++(bs++X),rows,L⟩:=by
 rw [<-hB] at hN hc hbs he
 clear hB B0
 have i:=ho.len
 have d:St.cut ⟨B++(bs++X),rows,L⟩ (B.length+bs.length) rows.length L.length=⟨B++bs,rows,L⟩:=by
  simp only [St.cut,List.take_length,<-List.append_assoc]
  rw [List.take_left' (by simp)]
 refine R9 (B.length+bs.length) rows.length L.length (by simp) (Nat.le_refl _) (Nat.le_refl _) (by omega) (by omega) (by omega) ?_ he (by rw [d];exact h)
 rw [d]
 refine ⟨fun r hr x a=>?_,fun cs hcs x a=>?_,fun g b k x a f=>?_⟩
 ·obtain ⟨t,rfl⟩:=ho.pre
  rcases List.mem_append.1 hr with hr | hr
  ·exact BQ (by omega) (by omega) (Nat.le_refl _) (hc.rows r hr x a)
  ·exact ho.calm r (by simpa using hr) x a _ _ _
 ·rcases List.mem_append.1 hcs with hcs | hcs
  ·exact BQ (by omega) (by omega) (Nat.le_refl _) (hc.boxes cs hcs x a)
  ·exact hbs cs hcs x a
 ·exact BQ (by omega) (by omega) (Nat.le_refl _) (hc.loops g b k x a f)
theorem ZW {sz:Nat} {ys:List AV} (hy:∀ y∈ys,∃ cs,y = .agg cs/\cs.length=sz):M5 sz true (ys.flatMap AV.cells) 0 ys.length=ys:=by
 have b:∀ y∈ys,y.cells.length=sz:=fun y h=>by obtain ⟨cs,rfl,q⟩:=hy y h;exact q
 refine List.ext_getElem (by simp [M5]) (fun i c a=>?_)
 simp only [M5,List.getElem_map,List.getElem_range,Nat.zero_add,OJ,if_true]
 obtain ⟨cs,e,q⟩:=hy _ (List.getElem_mem a)
 rw [e]
 congr 1
 refine List.ext_getElem? fun j=>?_
 by_cases hj:j<sz
 ·rw [List.getElem?_take_of_lt hj,List.getElem?_drop,RQ b i a j hj,e];rfl
 ·rw [List.getElem?_eq_none (by simp;omega),List.getElem?_eq_none (by omega)]
end
end Go.Ev
namespace Go.Proofs
open Go.Shelf
def Tryz.laysSort_ren:Go.Shelf.Ren:=⟨fun | 6=>46 | 15=>79 | 14=>78 | 28=>115 | 29=>116 | 20=>107 | 21=>108 | 22=>109 | 23=>110 | 24=>111 | 25=>112 | 26=>113 | 27=>114 | 46=>153 | 47=>154 | 48=>155 | 49=>156 | 50=>157 | 57=>214 | n=>n,fun | 22=>58 | 24=>96 | 25=>130 | 3=>3 | 39=>159 | 0=>0 | 53=>200 | 55=>202 | 4=>4 | 46=>194 | 45=>193 | 50=>85 | 5=>5 | 9=>9 | 66=>246 | 70=>236 | 76=>290 | 77=>291 | n=>n,fun | n=>n⟩
theorem Tryz.laysSort:Go.Proofs.SlLaysF0.n6 Tryz.prog Tryz.laysSort_ren:={
 mixed:=by kernel_rfl
 f6:=⟨Tryz.f46.name,by decide,Tryz.func46.trans (congrArg some (by kernel_rfl))⟩
 f14:=⟨Tryz.f78.name,by decide,Tryz.func78.trans (congrArg some (by kernel_rfl))⟩
 f15:=Tryz.func79.trans (congrArg some (by kernel_rfl))
 f20:=⟨Tryz.f107.name,by decide,Tryz.func107.trans (congrArg some (by kernel_rfl))⟩
 f21:=⟨Tryz.f108.name,by decide,Tryz.func108.trans (congrArg some (by kernel_rfl))⟩
 f22:=⟨Tryz.f109.name,by decide,Tryz.func109.trans (congrArg some (by kernel_rfl))⟩
 f23:=⟨Tryz.f110.name,by decide,Tryz.func110.trans (congrArg some (by kernel_rfl))⟩
 f24:=⟨Tryz.f111.name,by decide,Tryz.func111.trans (congrArg some (by kernel_rfl))⟩
 f25:=⟨Tryz.f112.name,by decide,Tryz.func112.trans (congrArg some (by kernel_rfl))⟩
 f26:=⟨Tryz.f113.name,by decide,Tryz.func113.trans (congrArg some (by kernel_rfl))⟩
 f27:=⟨Tryz.f114.name,by decide,Tryz.func114.trans (congrArg some (by kernel_rfl))⟩
 f28:=Tryz.func115.trans (congrArg some (by kernel_rfl))
 f29:=Tryz.func116.trans (congrArg some (by kernel_rfl))
 f46:=⟨Tryz.f153.name,by decide,Tryz.func153.trans (congrArg some (by kernel_rfl))⟩
 f47:=Tryz.func154.trans (congrArg some (by kernel_rfl))
 f48:=Tryz.func155.trans (congrArg some (by kernel_rfl))
 f49:=⟨Tryz.f156.name,by decide,Tryz.func156.trans (congrArg some (by kernel_rfl))⟩
 f50:=⟨Tryz.f157.name,by decide,Tryz.func157.trans (congrArg some (by kernel_rfl))⟩
 f57:=⟨Tryz.f214.name,by decide,Tryz.func214.trans (congrArg some (by kernel_rfl))⟩
 t0:=Tryz.underlying0
 a0:=Tryz.isAgg0
 z0:=Tryz.sizeOf0
 v0:=Tryz.zeroValue0
 t3:=Tryz.underlying3
 a3:=Tryz.isAgg3
 z3:=Tryz.sizeOf3
 v3:=Tryz.zeroValue3
 t4:=Tryz.underlying4
 a4:=Tryz.isAgg4
 z4:=Tryz.sizeOf4
 v4:=Tryz.zeroValue4
 t5:=Tryz.underlying5
 a5:=Tryz.isAgg5
 z5:=Tryz.sizeOf5
 v5:=Tryz.zeroValue5
 t9:=Tryz.underlying9
 a9:=Tryz.isAgg9
 z9:=Tryz.sizeOf9
 v9:=Tryz.zeroValue9
 t22:=Tryz.underlying58
 a22:=Tryz.isAgg58
 z22:=Tryz.sizeOf58
 v22:=Tryz.zeroValue58
 t25:=Tryz.underlying130
 a25:=Tryz.isAgg130
 z25:=Tryz.sizeOf130
 v25:=Tryz.zeroValue130
 t39:=Tryz.underlying159
 a39:=Tryz.isAgg159
 z39:=Tryz.sizeOf159
 v39:=Tryz.zeroValue159
 t45:=Tryz.underlying193
 a45:=Tryz.isAgg193
 z45:=Tryz.sizeOf193
 v45:=Tryz.zeroValue193
 t46:=Tryz.underlying194
 a46:=Tryz.isAgg194
 z46:=Tryz.sizeOf194
 v46:=Tryz.zeroValue194
 t50:=Tryz.underlying85
 a50:=Tryz.isAgg85
 z50:=Tryz.sizeOf85
 v50:=Tryz.zeroValue85
 t53:=Tryz.underlying200
 a53:=Tryz.isAgg200
 z53:=Tryz.sizeOf200
 v53:=Tryz.zeroValue200
 t55:=Tryz.underlying202
 a55:=Tryz.isAgg202
 z55:=Tryz.sizeOf202
 v55:=Tryz.zeroValue202
 t66:=Tryz.underlying246
 a66:=Tryz.isAgg246
 z66:=Tryz.sizeOf246
 v66:=Tryz.zeroValue246
 t70:=Tryz.underlying236
 a70:=Tryz.isAgg236
 z70:=Tryz.sizeOf236
 v70:=Tryz.zeroValue236
 t76:=Tryz.underlying290
 a76:=Tryz.isAgg290
 z76:=Tryz.sizeOf290
 v76:=Tryz.zeroValue290
 t77:=Tryz.underlying291
 a77:=Tryz.isAgg291
 z77:=Tryz.sizeOf291
 v77:=Tryz.zeroValue291 }
end Go.Proofs
namespace Go.Proofs.YtcpmjgdlioggjaaGreatDoor
open Go Go.RowKit Go.Ev Go.Shelf Go.Sort Go.Lib
theorem Yp (s s':ByteArray) (r r':List Value) (W:World) (h1:r.length=6) (h2:r'.length=6) (h3:∀ v∈r,v.oneCell'=true) (h4:∀ v∈r',v.oneCell'=true) :
  Calls Tryz.prog 47 #[.agg (.string s::r).toArray,.agg (.string s'::r').toArray] W fun e w'=>e = .returned (.int .i64 (Lib.compareBytes s.data.toList s'.data.toList))/\∃ q os',w'=grow (W.drewN q) os':=by
 have hcon:=fun W'=>Tryz.strings_Compare s s' W'
 change ∀ W',Calls Tryz.prog 48 _ _ _ at hcon
 generalize Lib.compareBytes s.data.toList s'.data.toList=z at hcon ⊢
 match r,h1 with
 | [a1,a2,a3,a4,a5,a6],_ =>
 match r',h2 with
 | [b1,b2,b3,b4,b5,b6],_ =>
 simp only [List.mem_cons,List.not_mem_nil,or_false,forall_eq_or_imp,forall_eq] at h3 h4
 go_enter Tryz.func47,Tryz.ntmps47
 go_wp2_with (go_at_call 48;refine (hcon _).mono ?_;rintro e w' ⟨rfl,rfl⟩)
 go_ret
 exact ⟨rfl,0,_,by rw [alloc_eq_grow,alloc_eq_grow,grow_grow];rfl⟩
def Ou:String:=(Rows.sagaLimitsRow.laid.map (·.1)).getD 2 default
abbrev Pow10 (w:World):Prop:=Lib.TabIs Tryz.prog w Ou .u64 Lib.pow10Tab
theorem Pow10.below {w0 w:World} (h:Pow10 w0) (hb:Below w0.heap.size w0 w):Pow10 w:=by
 unfold Pow10 Lib.TabIs World.var? at *
 cases hg:Tryz.prog.globalNamed Ou with
 | none=>rw [hg] at h;cases h
 | some g =>
  rw [hg] at h
  simp only [Option.bind_some] at h ⊢
  cases hx:w0.heap[g]? with
  | none=>rw [hx] at h;cases h
  | some o =>
   rw [hb.block g (Array.getElem?_eq_some_iff.1 hx).1]
   exact h
theorem TU (u:Nat):Lib.nDigits u<=u / 10+1:=by
 induction u using Nat.strongRecOn with
 | _ u ih =>
  by_cases h:u<10
  ·rw [Lib.nDigits_small h];omega
  ·rw [Lib.nDigits_big h]
   have:=ih (u / 10) (by omega)
   omega
theorem ZH (n:Int) (h : -9223372036854775808<=n/\n<=9223372036854775807):(Lib.itoa n).length<=maxLen:=by
 unfold Lib.itoa maxLen
 split
 ·rw [List.length_cons,Lib.decDigits_length];have:=TU n.natAbs;omega
 ·rw [Lib.decDigits_length];have:=TU n.toNat;omega
theorem Zbm (w0:World) (B:Aj) (Rw:Am) (L:An) (hP:Pow10 w0) (n:Int) (hn : -9223372036854775808<=n/\n<=9223372036854775807) :
  ACalls Tryz.prog w0 63 [Ag n] ⟨B,Rw,L⟩ fun v s'=>v = .val (.string ⟨(Lib.itoa n).toArray⟩)/\s'=⟨B,Rw,L⟩ :=
 Hj (AU Tryz.func63 rfl (by decide)) (by
  show decide ((Lib.itoa n).toArray.size<=maxLen)=true
  rw [List.size_toArray]
  exact decide_eq_true (ZH n hn)) fun M w c f a=>by
  have:=NB (us:=[.int .i64 n]) a
  subst this
  refine (Any.strconv_Itoa Tryz.laysM171 n hn.1 hn.2 w (hP.below f)).mono ?_
  rintro e g ⟨rfl,k,b,rfl⟩
  refine ⟨rfl,rfl,rfl,rfl,by simp [grow],fun i d=>?_⟩
  show (grow (w.drewN k) b).heap[i]? = w.heap[i]?
  rw [heap_grow_old (w.drewN k) b d]
  rfl
end Go.Proofs.YtcpmjgdlioggjaaGreatDoor
namespace Go.Proofs.YtcpmjgdlioggjaaGreatDoor
open Go Go.RowKit Go.Ev
theorem tgh {α β:Type} {a:α} {b:β} (h:Tg (a,b)):Tg a:=trivial
theorem tgt {α β:Type} {a:α} {b:β} (h:Tg (a,b)):Tg b:=trivial
theorem bI2 {α β:Type} {o:Option α} {x:α} {f:α->Option β} {r:β} {p:Prop} (hx:o=some x) (k:f x=some r->p):o.bind f=some r->p:=fun h=>by
 rw [hx] at h
 exact k h
theorem bI {α β:Type} {o:Option α} {f:α->Option β} {r:β} {p:Prop} (k:∀ y,o=some y->f y=some r->p):o.bind f=some r->p:=fun h=>by
 obtain ⟨y,a,b⟩:=bind_some h
 exact k y a b
theorem gI {β:Type} {c:Prop} [Decidable c] {x:Option β} {r:β} {p:Prop} (k:c->x=some r->p):(if c then x else none)=some r->p:=fun h=>by
 obtain ⟨a,b⟩:=Ak h
 exact k a b
theorem xI {α β:Type} {l:List α} {i:Int} {F:α->Option β} {r:β} {A p:Prop} (a:A) (k:∀ x,0<=i->i<l.length->((∀ g:α->AV,(l.map g).getD i.toNat .junk=g x)/\(∀ (g:α->AV) (j:Nat),i=(j:Int)->(l.map g).getD j .junk=g x)/\A)->F x=some r->p):(D1 l i).bind F=some r->p:=fun h=>by
 obtain ⟨x,d,h⟩:=bind_some h
 obtain ⟨a1,b,c⟩:=Bo d
 exact k x a1 b ⟨fun g=>Bq c,fun g j e=>by rw [show j=i.toNat by omega];exact Bq c,a⟩ h
section
variable {P:Program} {w0:World} {n:Nat} {M0:Mem} {W0:World} {ro:Option Nat} {e:Env} {st:St} {Q:AQ}
theorem cI {α β' β:Type} {ta:α} {tb:β'} {F:Prop} {b:Bool} {X Y r:β} (f:F) {c:Operand} {x y:Code} (ht:Tg ta->(b=true/\F)->X=r->CW P w0 n M0 W0 ro x Q e st) (hf:Tg tb->(b=false/\F)->Y=r->CW P w0 n M0 W0 ro y Q e st)
  (hc:A4 e true c) (hb:Au e c = .val (.bool b)):(if b=true then X else Y)=r->Tg (ta,tb)->CW P w0 n M0 W0 ro (.cond c x y) Q e st :=
 fun h _=>BA h f (ht trivial) (hf trivial) hc (fun _=>hb)
theorem cT {c:Operand} {x y:Code} (c1:A4 e true c) (c2:Au e c = .val (.bool true)) (c3:CW P w0 n M0 W0 ro x Q e st):CW P w0 n M0 W0 ro (.cond c x y) Q e st:=Bl true c1 c2 (fun _=>c3) (fun q=>Bool.noConfusion q)
theorem cF {c:Operand} {x y:Code} (c1:A4 e true c) (c2:Au e c = .val (.bool false)) (c3:CW P w0 n M0 W0 ro y Q e st):CW P w0 n M0 W0 ro (.cond c x y) Q e st:=Bl false c1 c2 (fun q=>Bool.noConfusion q) (fun _=>c3)
theorem callG {f:FuncId} {c d:Bool} {cs args args':List AV} {k:AV->St->Prop} {v:AV}
  (hA:ACalls P w0 f args' st fun r s=>r=v/\s=st) (hE:(args++cs).map AV.pubA=args') (hk:k v st):I2 P w0 c d (.clo f cs) args st k:=Aq v hA hE hk
theorem evI {c:Nat} {d:Bool} {all os:List Oper} {K:Env->St->Prop} (h:YW P w0 n d all (Ru P w0 n d all K c) K os e st):Ru P w0 n d all K (c+1) os e st:=h
theorem Zjy {m:Nat} {L:List Nat} (t:Tg (m::L)) (hm:P.follows .mixedOrders=true) {id:Nat} {l:List Oper}
  (hev:Ru P w0 n true l (fun e1 s1=>Ru P w0 n false l (fun e2 s2=>Q .normal (BW L e2) s2) 9 (l.drop m) e1 s1) 9 (l.take m) e st) (hB:UV l m=true:=by kernel_rfl):CW P w0 n M0 W0 ro (.region id l.toArray true) Q e st:=P0 hm m 9 9 L hB hev
theorem te {B0 B bs X:List (List AV)} {Rw rows:List RowA} {L:List LoopA} {l:List (Nat × Nat × Ev.Own)} {c:Code} (hq:M0.N=B0.length/\M0.NR=Rw.length/\M0.NL=L.length/\Ev.Calm B0.length Rw.length L.length ⟨B,Rw,L⟩) (ho:Owns Rw rows l)
  (hB:B.length=B0.length) (hbs:(∀ x∈l,x.2.2.under rows.length)->∀ cs∈bs,∀ x∈cs,Under (B0.length+bs.length) rows.length L.length x)
  (he:(∀ x∈l,x.2.2.under rows.length)->G1 (B0.length+bs.length) rows.length L.length e) (h:CW P w0 n M0 W0 ro c Q e ⟨B++bs,rows,L⟩):CW P w0 n M0 W0 ro c Q e ⟨B++(bs++X),rows,L⟩ :=
 A8 hq.1 hq.2.1 hq.2.2.1 hB hq.2.2.2 ho (hbs ho.unders) (he ho.unders) h
theorem fI {α β' β:Type} {ta:α} {tb:β'} {F:Prop} {b:Bool} {X Y r:β} {p:Prop} (f:F) (ht:Tg ta->(b=true/\F)->X=r->p) (hf:Tg tb->(b=false/\F)->Y=r->p):(if b=true then X else Y)=r->Tg (ta,tb)->p:=fun h _=>by
 cases b with
 | true=>exact ht trivial ⟨rfl,f⟩ h
 | false=>exact hf trivial ⟨rfl,f⟩ h
theorem ckA {a b c d:Prop} (cc:d) (co:c) (ce:a) (cs:b):a/\b/\c/\d:=⟨ce,cs,co,cc⟩
def preL:List (List AV)->List (List AV)->Prop
 | [],_=>True
 | _::_,[]=>False
 | b::bs,c::cs=>c=b/\preL bs cs
attribute [go_sem] preL.eq_1 preL.eq_2 preL.eq_3
theorem Y5:∀ {bs cs:List (List AV)},preL bs cs->cs=bs++cs.drop bs.length
 | [],_,_=>rfl
 | _::_,[],h=>h.elim
 | b::bs,c::cs,h=>by rw [h.1,List.length_cons,List.drop_succ_cons,List.cons_append,<-Y5 h.2]
theorem ckI {B bs cs:List (List AV)} {rows:List RowA} {L:List LoopA} (h:preL bs cs):(⟨B++cs,rows,L⟩:St)=⟨B++(bs++cs.drop bs.length),rows,L⟩:=by rw [<-Y5 h]
theorem ckB {B:List (List AV)} {rows:List RowA} {L:List LoopA}:(⟨B,rows,L⟩:St)=⟨B++([]++[]),rows,L⟩:=by simp
theorem Owns.n1 {Rw rows:List RowA} {sz n m:Nat} {o:Ev.Own} (h:Owns Rw rows [(sz,n,o)]) (e:n=m):Owns Rw rows [(sz,m,o)]:=e▸h
theorem Owns.n2 {Rw rows:List RowA} {sz n m sz' n' m':Nat} {o o':Ev.Own} (h:Owns Rw rows [(sz,n,o),(sz',n',o')]) (e:n=m) (e':n'=m'):Owns Rw rows [(sz,m,o),(sz',m',o')]:=e▸e'▸h
structure AE (P:Program) (t el:TypeId) (sz:Nat) (ag:Bool) (by8:Nat):Prop where
 he:GN P t=some (el,sz,ag,by8)
 hz:(Bv P el).isSome=true
 hs:0<sz
theorem ae {P:Program} {t el:TypeId} {sz by8:Nat} {ag:Bool} {z:List AV} (he:GN P t=some (el,sz,ag,by8)) (hz:Bv P el=some z) (hs:0<sz:=by decide):AE P t el sz ag by8:=⟨he,by rw [hz];rfl,hs⟩
theorem aI {P:Program} {t el:TypeId} {sz by8 n:Nat} {ag:Bool} {Rw rows:List RowA} {l:List (Nat × Nat × Ev.Own)} {o:Ev.Own} {β:Type} {x:Option β} {r:β} {A p:Prop} (a:AE P t el sz ag by8) (hO:Owns Rw rows ((sz,n,o)::l)) (f:A)
  (k:∀ o' rows',Owns Rw rows' ((sz,n+1,o')::l)->((n+1)*by8<=140737488355328/\n+1<=4611686018427387904) ->
   ((∀ (xs:List AV) (y:AV) (B:Aj) (L:An) (o2:Ev.Own),xs.length=n->(∀ z∈xs,z.cells.length=sz)->BE P ⟨B,rows,L⟩ t (.list xs o) (.list [y] o2)=((y.cells.length=sz/\A9 y=true),.list (xs++[y.pub]) o',⟨B,rows',L⟩))/\A)->x=some r->p) :
  (if (n+1)*by8<=140737488355328/\n+1<=4611686018427387904 then x else none)=some r->p:=fun h=>by
 obtain ⟨c,h⟩:=Ak h
 obtain ⟨o',rows',b,q⟩:=hO.append (P:=P) a.he a.hz a.hs 1 c.1 c.2
 refine k o' rows' b c ⟨fun xs y B L o2 e d=>?_,f⟩ h
 have:=q xs [y] B L o2 e rfl d
 simpa only [List.mem_singleton,forall_eq,List.map_cons,List.map_nil] using this
theorem q1 {a:Prop} (x:a):a/\True:=⟨x,trivial⟩
theorem q2 {a b:Prop} (x:a) (y:b):a/\b/\True:=⟨x,y,trivial⟩
theorem q3 {a b c:Prop} (x:a) (y:b) (z:c):a/\b/\c/\True:=⟨x,y,z,trivial⟩
theorem skI {d:Bool} {fv:AV} {args:List AV} {k:AV->St->Prop} (h:k .junk st):I2 P w0 false d fv args st k:=Mc h
theorem ZkN {B:List (List AV)} {l:Nat} {c:List AV} (h:B[l]? = some c):B[l]? = some c:=h
theorem ZfX {f:FuncId} {c d:Bool} {cs args args':List AV} {k:AV->St->Prop} {v:AV}
  (hA:ACalls P w0 f args' st fun r s=>r=v/\s=st) (hE:args++cs=args') (hk:k v st):I2 P w0 c d (.clo f cs) args st k:=P6 v hA hE hk
end
theorem go {T F C1 C2 C3 C G H HC HK p:Prop} (tL:T) (h:H) (hs:F) (hN:C1) (hNR:C2) (hNL:C3) (hcalm:C) (hO:G) (hc:HC) (hk:HK) (k:T->H->F->C1->C2->C3->C->G->HC->HK->p:=by
    intro tL h hs hN hNR hNL hcalm hO hc hk
    try
      ((with_reducible apply te ⟨hN,hNR,hNL,hcalm⟩ hO)
       case' hB=>first | rfl | simp only [List.length_set]
       case' hbs=>(intro hU;(try simp only [List.mem_cons,List.not_mem_nil,or_false,forall_eq_or_imp,forall_eq] at hU);(first | simp +decide only [go_sem,Nat.reduceAdd,G1,hU] | simp +decide only [go_sem,Nat.reduceAdd,G1])<;>(try (repeat' apply Ac))<;>first | omega | assumption | exact hU.1 | exact hU.2 | exact hU.2.1 | exact hU.2.2)
       case' he=>(intro hU;(try simp only [List.mem_cons,List.not_mem_nil,or_false,forall_eq_or_imp,forall_eq] at hU);(first | simp +decide only [go_sem,Nat.reduceAdd,G1,hU] | simp +decide only [go_sem,Nat.reduceAdd,G1])<;>(try (repeat' apply Ac))<;>first | omega | assumption | exact hU.1 | exact hU.2 | exact hU.2.1 | exact hU.2.2))
    repeat' first
      | (with_reducible exact nS h)
      | (revert h;(with_reducible refine xI hs ?_);intro x hxa hxb hs h)
      | (revert h;(with_reducible refine bI2 (by assumption) ?_);intro h)
      | (revert h;(with_reducible refine bI ?_);intro y hy h)
      | (revert h;(first | (with_reducible refine aI hc.1 hO hs ?_) | (with_reducible refine aI hc.2.1 hO hs ?_) | (with_reducible refine aI hc.2.2.1 hO hs ?_) | (with_reducible refine aI hc.2.2.2.1 hO hs ?_) | (with_reducible refine aI hc.2.2.2.2.1 hO hs ?_));intro o rows hO hg hs h)
      | (revert h;(first | (with_reducible refine aI hc.1 (hO.full _ 0) hs ?_) | (with_reducible refine aI hc.2.1 (hO.full _ 0) hs ?_) | (with_reducible refine aI hc.2.2.1 (hO.full _ 0) hs ?_) | (with_reducible refine aI hc.2.2.2.1 (hO.full _ 0) hs ?_) | (with_reducible refine aI hc.2.2.2.2.1 (hO.full _ 0) hs ?_));intro o rows hO hg hs h)
      | (revert h;(first | (with_reducible refine aI hc.1 (hO.swap (List.Perm.swap _ _ _)) hs ?_) | (with_reducible refine aI hc.2.1 (hO.swap (List.Perm.swap _ _ _)) hs ?_) | (with_reducible refine aI hc.2.2.1 (hO.swap (List.Perm.swap _ _ _)) hs ?_) | (with_reducible refine aI hc.2.2.2.1 (hO.swap (List.Perm.swap _ _ _)) hs ?_) | (with_reducible refine aI hc.2.2.2.2.1 (hO.swap (List.Perm.swap _ _ _)) hs ?_));intro o rows hO hg hs h)
      | (revert h;(first | (with_reducible refine aI hc.1 ((hO.full _ 0).swap (List.Perm.swap _ _ _)) hs ?_) | (with_reducible refine aI hc.2.1 ((hO.full _ 0).swap (List.Perm.swap _ _ _)) hs ?_) | (with_reducible refine aI hc.2.2.1 ((hO.full _ 0).swap (List.Perm.swap _ _ _)) hs ?_) | (with_reducible refine aI hc.2.2.2.1 ((hO.full _ 0).swap (List.Perm.swap _ _ _)) hs ?_) | (with_reducible refine aI hc.2.2.2.2.1 ((hO.full _ 0).swap (List.Perm.swap _ _ _)) hs ?_));intro o rows hO hg hs h)
      | (revert h;(with_reducible refine gI ?_);intro hg h)
      | (with_reducible apply Ac)
      | ((with_reducible refine hK _ _ ?_);clear hK)
      | (with_reducible refine hk.1 _ _ ?_)
      | (with_reducible refine hk.2.1 _ _ ?_)
      | (with_reducible refine hk.2.2.1 _ _ ?_)
      | (with_reducible exact hk.2.1 _ _ h)
      | (clear hK;(with_reducible refine hK _ _ ?_);clear hK)
      | (clear hK;clear hK;(with_reducible refine hK _ _ ?_);clear hK)
      | ((with_reducible refine evI ?_);simp +decide only [go_sem,Nat.reduceAdd,hs])
      | (with_reducible refine skI ?_)
      | ((with_reducible apply callG)
         case' hA=>first | apply hc.1 | apply hc.2.1 | apply hc.2.2.1 | apply hc.2.2.2.1 | apply hc.2.2.2.2.1 | apply hc.2.2.2.2.2.1 | apply hc.2.2.2.2.2.2.1 | apply hc.2.2.2.2.2.2.2.1
         case' hE=>rfl
         try (any_goals assumption))
      | ((with_reducible apply callG)
         case' hA=>first | apply hc.1 | apply hc.2.1 | apply hc.2.2.1 | apply hc.2.2.2.1 | apply hc.2.2.2.2.1 | apply hc.2.2.2.2.2.1 | apply hc.2.2.2.2.2.2.1 | apply hc.2.2.2.2.2.2.2.1
         any_goals (show _=some _;assumption)
         case' hE=>first | rfl | (simp +decide only [go_sem,Nat.reduceAdd,hs];done) | (simp +decide only [go_sem,Nat.reduceAdd,Vl.cs,Ty.cs,hs];done)
         try (any_goals assumption))
      | ((with_reducible apply ZfX)
         case' hA=>first | apply hc.1 | apply hc.2.1 | apply hc.2.2.1 | apply hc.2.2.2.1 | apply hc.2.2.2.2.1 | apply hc.2.2.2.2.2.1 | apply hc.2.2.2.2.2.2.1 | apply hc.2.2.2.2.2.2.2.1
         case' hE=>rfl
         try (any_goals first | assumption | exact List.prefix_append _ _ | exact List.prefix_refl _ | exact hO.pre))
      | ((with_reducible apply ZfX)
         case' hA=>first | apply hc.1 | apply hc.2.1 | apply hc.2.2.1 | apply hc.2.2.2.1 | apply hc.2.2.2.2.1 | apply hc.2.2.2.2.2.1 | apply hc.2.2.2.2.2.2.1 | apply hc.2.2.2.2.2.2.2.1
         any_goals (show _=some _;assumption)
         case' hE=>first | rfl | (simp +decide only [go_sem,Nat.reduceAdd,hs];done) | (simp +decide only [go_sem,Nat.reduceAdd,Vl.cs,Ty.cs,hs];done)
         try (any_goals first | assumption | exact List.prefix_append _ _ | exact List.prefix_refl _ | exact hO.pre))
      | ((with_reducible refine ZkN ?_);first | rfl | (simp +decide only [go_sem,Nat.reduceAdd,hs];done))
      | ((with_reducible apply Ah);intro K hK)
      | ((with_reducible refine IE (c:=9) tg (tgh tL) ?_);replace tL:=tgt tL)
      | (with_reducible apply Ao)
      | (revert tL;revert h;(with_reducible apply cI hs)
         case' hc=>simp +decide only [go_sem,Nat.reduceAdd]
         case' hb=>first | (simp +decide only [go_sem,Nat.reduceAdd,hs];done) | (simp +decide only [go_sem,Nat.reduceAdd,hs];rfl)
         case' ht=>intro tL hs h
         case' hf=>intro tL hs h)
      | ((with_reducible refine BC ?_)
         simp +decide only [go_sem,Nat.reduceAdd,hs]
         first | (have hgt:=Option.some.inj h;subst hgt) | subst h
         first | refine Cb hcalm rfl hO.pre ?_ ⟨?_,?_⟩ | refine Dq hcalm rfl hO.pre ?_ ⟨?_,?_⟩ | refine Cb (AA hcalm ?_) (List.length_set ..) hO.pre ?_ ⟨?_,?_⟩ | refine Dq (AA hcalm ?_) (List.length_set ..) hO.pre ?_ ⟨?_,?_⟩ | exact hk.1 _ _ rfl _
         all_goals first | rfl | (simp +decide only [go_sem,Nat.reduceAdd,hs];done) | (simp +decide only [go_sem,Nat.reduceAdd,Vl.cs,Ty.cs,hs];done) | (simp_all;done))
      | ((with_reducible refine Si (tgh tL) ?_);replace tL:=tgt tL;first | (with_reducible refine BB ?_) | (with_reducible refine D4 ?_)
         simp +decide only [go_sem,Nat.reduceAdd])
      | ((with_reducible refine Zjy (tgh tL) GP ?_);replace tL:=tgt tL)
      | ((with_reducible apply cT)
         case' c1=>simp +decide only [go_sem,Nat.reduceAdd]
         case' c2=>first | rfl | (simp +decide only [go_sem,Nat.reduceAdd,hs];done))
      | ((with_reducible apply cF)
         case' c1=>simp +decide only [go_sem,Nat.reduceAdd]
         case' c2=>first | rfl | (simp +decide only [go_sem,Nat.reduceAdd,hs];done))
      | (revert tL;revert h;(with_reducible refine fI hs ?_ ?_)<;>(intro tL hs h;(try have hs:=Ac (of_decide_eq_true hs.1) hs);(try have hs:=Ac (of_decide_eq_false hs.1) hs);try simp +decide only [go_sem,Nat.reduceAdd,hs]))
      | ((with_reducible apply Exists.intro)
         repeat (with_reducible apply Exists.intro)
         (with_reducible apply ckA)
         case' cc=>exact h
         case' co=>first | exact hO | (refine Owns.n1 hO ?_;first | rfl | simp only [List.length_append,List.length_cons,List.length_nil,List.length_map,Nat.zero_add,Nat.add_zero]) | (refine Owns.n2 (hO.swap (List.Perm.swap _ _ _)) ?_ ?_<;>(first | rfl | simp only [List.length_append,List.length_cons,List.length_nil,List.length_map,Nat.zero_add,Nat.add_zero])) | (refine Owns.n2 hO ?_ ?_<;>(first | rfl | simp only [List.length_append,List.length_cons,List.length_nil,List.length_map,Nat.zero_add,Nat.add_zero]))
         case' cs=>first | exact ckB | (refine ckI ?_;first | rfl | (simp +decide only [go_sem,Nat.reduceAdd,hs];done))
         case' ce=>first | rfl | (simp +decide only [go_sem,Nat.reduceAdd,hs];done))
      | exact cl):p:=k tL h hs hN hNR hNL hcalm hO hc hk
section
variable {P:Program} {w0:World} {n:Nat} {l:List Oper} {ef dn:List Nat} {F:St->Prop} {T:Env->St->Prop} {k:Nat} {ev:Env} {s:St}
theorem gm1 {i:Nat} (_:Tg i) (hr:VD l ef dn=[i]) (hn:(ef.all fun i=>dn.contains i)=false) (hF:F s) (h:∃ o,l[i]? = some o/\o.guard=none/\ID n o.dst/\∃ Post:AV->St->Prop,SJ P w0 (B2 true l o ev) s o Post/\∀ v s',Post v s'->Ev.Good P w0 n l ef F T k (i::dn) (Ip ev o.dst true v) s'):Ev.Good P w0 n l ef F T (k+1) dn ev s :=
 Ev.Good.mk [i] hr hF (fun q=>by rw [hn] at q;cases q) (fun j hj=>by obtain rfl:=List.mem_singleton.1 hj;exact h)
theorem gm0 {L:List Nat} {nb:Nat} {e2:Env} (_:Tg L) (hr:VD l ef dn=[]) (hF:F s) (hT:BW L ev=e2):Ev.Good P w0 n l ef F (fun ev s'=>Conv w0 n nb ev s' e2 s) (k+1) dn ev s :=
 Ev.Good.mk [] hr hF (fun _=>BM L hT) (fun i hi=>by cases hi)
theorem stI {o:Oper} {v:AV} {s':St} (h:A7 P w0 ev s o v s'):A7 P w0 ev s o v s':=h
theorem kpI {L:List Nat} {e e':Env} (h:BW L e=e'):BW L e=e':=h
end
theorem gd {T F p:Prop} (tL:T) (hs:F) (k:T->F->p:=by
  intro tL hs
  repeat' first
    | ((with_reducible refine gm1 (tgh tL) kr rfl ?_ ?_)<;>replace tL:=tgt tL)
    | (with_reducible apply gm0 tL kr)
    | (apply Aw rfl rfl ev
       case' hs=>((simp +decide only [go_sem,Nat.reduceAdd,A7,hs]);(repeat' apply Ac)<;>first | rfl | exact cl)
       case' hk=>simp +decide only [go_sem,Nat.reduceAdd,hs])
    | ((with_reducible refine stI ?_);simp +decide only [go_sem,Nat.reduceAdd,A7,hs];(repeat' apply Ac)<;>first | rfl | exact cl)
    | ((with_reducible apply kpI);first | (simp +decide only [go_sem,Nat.reduceAdd,hs];done) | (simp +decide only [go_sem,Nat.reduceAdd,hs];rfl) | (simp +decide only [go_sem,Nat.reduceAdd,and_self,imp_self,hs];done) | (simp +decide only [go_sem,Nat.reduceAdd,and_self,imp_self,hs];rfl))
    | exact ⟨[],_,rfl⟩
    | exact ⟨[],_,_,rfl⟩
    | exact ⟨[],_,_,_,rfl⟩
    | exact ⟨_,_,rfl⟩
    | exact ⟨_,_,_,rfl⟩
    | exact ⟨[],_,by simp only [List.append_nil,List.nil_append]⟩
    | exact ⟨[],_,_,by simp only [List.append_nil,List.nil_append]⟩
    | exact ⟨_,_,by simp only [List.append_nil,List.nil_append]⟩):p:=k tL hs
end Go.Proofs.YtcpmjgdlioggjaaGreatDoor
namespace Go.Ev
open Go Go.RowKit
section
variable {o:VO} {n:Nat}
@[go_sem] theorem ZhQ:(Gk o n).cells=[Gk o n]:=by cases o<;>rfl
@[go_sem] theorem ZjX:(Gk o n).one=true:=by cases o<;>rfl
@[go_sem] theorem Zgy:A9 (Gk o n)=true:=by cases o<;>rfl
@[go_sem] theorem ZhM:Eh (Gk o n)=false:=by cases o<;>rfl
@[go_sem] theorem Zj7:RY (Gk o n)=false:=by cases o<;>rfl
@[go_sem] theorem PN (id ver:Nat):Gk (.row id ver) n = .vec id ver 0 n:=rfl
def VO.under:VO->Nat->Prop
 | .nil,_=>True
 | .row id _,k=>id<k
@[go_sem] theorem ZhE {nb nr nl:Nat}:Under nb nr nl (Gk o n)<->o.under nr:=by
 cases o with
 | nil=>exact ⟨fun _=>trivial,fun _ => .list (by simp) trivial⟩
 | row id ver=>exact ⟨fun h=>by cases h;assumption,fun h => .vec h⟩
@[go_sem] theorem ZdI (k:Nat):VO.nil.under k=True:=rfl
@[go_sem] theorem PQ (id ver k:Nat):(VO.row id ver).under k=(id<k):=rfl
end
def Nj:VO->List RowA->VO
 | .nil,rows => .row rows.length 0
 | .row id ver,_ => .row id (ver+1)
def PS:VO->List RowA->Nat->List AV->List RowA
 | .nil,rows,sz,cs=>rows++[.vec 0 sz cs]
 | .row id ver,rows,sz,cs=>rows.set id (.vec (ver+1) sz cs)
section
variable {Rw rows:List RowA} {l:List (Nat × Nat × Own)} {ho:Own} {v:List VE} {o:VO} {sz:Nat} {cs:List AV}
theorem OwnsAt.up {lo:Nat} {x:Nat × Nat × Own} (h:OwnsAt lo ho rows x) (r:Am):OwnsAt lo ho (rows++r) x:=by
 rcases h with h | ⟨id,h1,h2,h3⟩
 ·exact .inl h
 ·exact .inr ⟨id,h1,h2,by rw [List.getElem?_append_left (Af.1 h3).1];exact h3⟩
theorem OwnsAt.set {lo:Nat} {x:Nat × Nat × Own} (h:OwnsAt lo ho rows x) {i:Nat} {a s:Nat} {c:List AV} (hi:rows[i]? = some (.vec a s c)) (r:RowA):OwnsAt lo ho (rows.set i r) x:=by
 rcases h with h | ⟨id,h1,h2,h3⟩
 ·exact .inl h
 ·refine .inr ⟨id,h1,h2,?_⟩
  rw [List.getElem?_set_ne (fun e=>by rw [e,h3] at hi;cases hi)]
  exact h3
theorem VAt.lt {lo:Nat} {x:VE} (h:VAt lo ho rows x):x.1.under rows.length:=by
 rcases h with h | ⟨id,ver,h1,h2,h3⟩
 ·rw [h.1];trivial
 ·rw [h1];exact (Af.1 h3).1
theorem Owns.nilV (h:Owns Rw rows l ho v) (sz:Nat):Owns Rw rows l ho ((.nil,sz,[])::v) :=
 ⟨h.len,h.keep,fun i r b q a=>h.calm i r b q fun x hx=>a x (List.mem_cons_of_mem _ hx),h.each,h.apart,fun x hx=>by
  rcases List.mem_cons.1 hx with rfl | hx
  ·exact .inl ⟨rfl,rfl⟩
  ·exact h.veach x hx,List.pairwise_cons.2 ⟨fun _ _ _ _ _ q=>(nomatch q),h.vapart⟩⟩
theorem Owns.newV (h:Owns Rw rows l ho v) (sz:Nat) (cs:List AV):Owns Rw (rows++[.vec 0 sz cs]) l ho ((.row rows.length 0,sz,cs)::v):=by
 have j:=h.len
 refine ⟨by simp;omega,fun i c g=>?_,fun i r d q f=>?_,fun x hx=>(h.each x hx).up _,h.apart,fun x hx=>?_,List.pairwise_cons.2 ⟨fun y m id a b q k=>?_,h.vapart⟩⟩
 ·rw [List.getElem?_append_left (by omega)];exact h.keep i c g
 ·by_cases c:i<rows.length
  ·rw [List.getElem?_append_left c] at d
   exact h.calm i r d q fun x hx=>f x (List.mem_cons_of_mem _ hx)
  ·have e:i=rows.length:=by
    have:=(Af.1 d).1
    simp at this;omega
   exact absurd (by rw [e]) (f _ (List.mem_cons_self ..) 0)
 ·rcases List.mem_cons.1 hx with rfl | hx
  ·exact .inr ⟨_,_,rfl,.inl j,by simp⟩
  ·exact (h.veach x hx).up _
 ·cases q
  have:=(h.veach y m).lt
  rw [k] at this
  exact Nat.lt_irrefl _ this
theorem Owns.setV {id ver:Nat} (h:Owns Rw rows l ho ((.row id ver,sz,cs)::v)) (ver':Nat) (cs':List AV):Owns Rw (rows.set id (.vec ver' sz cs')) l ho ((.row id ver',sz,cs')::v):=by
 obtain ⟨s,h1,m,o,p,j,n⟩:=h
 obtain ⟨hid,hrow⟩:(Rw.length<=id\/ho = .row id)/\rows[id]? = some (.vec ver sz cs):=by
  rcases j _ (List.mem_cons_self ..) with q | ⟨d,ver',q1,q2,q3⟩
  ·cases q.1
  ·cases q1;exact ⟨q2,q3⟩
 have c:=(Af.1 hrow).1
 obtain ⟨p1,p2⟩:=List.pairwise_cons.1 n
 refine ⟨by simpa using s,fun i hi hn=>?_,fun i r g q f=>?_,fun x hx=>(o x hx).set hrow _,p,fun x hx=>?_,List.pairwise_cons.2 ⟨fun y hy d a b q=>by cases q;exact p1 y hy id ver b rfl,p2⟩⟩
 ·rw [List.getElem?_set_ne (fun e=>by subst e;rcases hid with q | q;exact Nat.lt_irrefl _ (Nat.lt_of_lt_of_le hi q);exact hn q)];exact h1 i hi hn
 ·by_cases e:id=i
  ·exact absurd (by rw [e]) (f _ (List.mem_cons_self ..) ver')
  ·rw [List.getElem?_set_ne e] at g
   refine m i r g q fun x hx=>?_
   rcases List.mem_cons.1 hx with rfl | hx
   ·intro a k;cases k;exact e rfl
   ·exact f x (List.mem_cons_of_mem _ hx)
 ·rcases List.mem_cons.1 hx with rfl | hx
  ·exact .inr ⟨id,ver',rfl,hid,by simp [c]⟩
  ·exact (j x (List.mem_cons_of_mem _ hx)).set (fun a k=>p1 x hx id ver a rfl k) _
theorem Owns.storeV {id ver:Nat} (h:Owns Rw rows l ho ((.row id ver,sz,cs)::v)) (cs':List AV):∃ rows',Owns Rw rows' l ho ((.row id ver,sz,cs')::v)/\rows.set id (.vec ver sz cs')=rows':=⟨_,h.setV ver cs',rfl⟩
theorem Owns.bump (h:Owns Rw rows l ho ((o,sz,cs)::v)) (cs':List AV):Owns Rw (PS o rows sz cs') l ho ((Nj o rows,sz,cs')::v):=by
 cases o with
 | nil =>
  have d:Owns Rw rows l ho v:=⟨h.len,h.keep,fun i r c q b=>h.calm i r c q fun x hx=>by
   rcases List.mem_cons.1 hx with rfl | hx
   ·intro a k;cases k
   ·exact b x hx,h.each,h.apart,fun x hx=>h.veach x (List.mem_cons_of_mem _ hx),(List.pairwise_cons.1 h.vapart).2⟩
  exact d.newV sz cs'
 | row id ver=>exact h.setV (ver+1) cs'
theorem Owns.eqV {v':List VE} (h:Owns Rw rows l ho v) (he:v=v'):Owns Rw rows l ho v':=he▸h
theorem Owns.rowV (h:Owns Rw rows l ho ((o,sz,cs)::v)) (hne:0<cs.length):∃ id ver,o = .row id ver/\id<rows.length/\Df rows id ver=some (sz,cs):=by
 rcases h.veach _ (List.mem_cons_self ..) with q | ⟨id,ver,q1,q2,q3⟩
 ·have q2:cs=[]:=q.2
  rw [q2] at hne;simp at hne
 ·refine ⟨id,ver,q1,(Af.1 q3).1,?_⟩
  simp only [Df,q3,if_true]
theorem Owns.nilZ (h:Owns Rw rows l ho ((o,sz,cs)::v)) (hs:0<sz) {n:Nat} (hn:cs.length=n*sz):o = .nil->n=0:=fun e=>by
 rcases h.veach _ (List.mem_cons_self ..) with q | ⟨id,ver,q1,q2,q3⟩
 ·have q2:cs=[]:=q.2
  rw [q2] at hn
  rcases Nat.eq_zero_or_pos n with w | w
  ·exact w
  ·have:=Nat.mul_pos w hs
   simp at hn;omega
 ·rw [e] at q1;cases q1
theorem Owns.lenV (h:Owns Rw rows l ho ((o,sz,cs)::v)) (hs:0<sz) {n:Nat} (hn:cs.length=n*sz) (P:Program) (t:TypeId):Q9 P t (Gk o n)=((GN P t).isSome=true,Ag n):=by
 cases o with
 | nil=>rw [h.nilZ hs hn rfl];rfl
 | row id ver=>rfl
theorem Owns.underV (h:Owns Rw rows l ho v):∀ x∈v,x.1.under rows.length:=fun x a=>(h.veach x a).lt
theorem Owns.appendV {P:Program} {t el:TypeId} {by8 n m:Nat} {ag:Bool} (h:Owns Rw rows l ho ((o,sz,cs)::v)) (he:GN P t=some (el,sz,ag,by8)) (hz:(Bv P el).isSome=true) (hs:0<sz) (hn:cs.length=n*sz)
  (hb:(n+m)*by8<=140737488355328) (hb2:n+m<=4611686018427387904) (ys:List AV) (hy:ys.length=m) (cs':List AV) (hc:cs++ys.flatMap (fun y=>y.pub.cells)=cs') :
  ∃ o' rows',Owns Rw rows' l ho ((o',sz,cs')::v)/\∀ (B:Aj) (L:An) (o2:Own),BE P ⟨B,rows,L⟩ t (Gk o n) (.list ys o2)=((∀ y∈ys,y.cells.length=sz/\A9 y=true),Gk o' (n+m),⟨B,rows',L⟩):=by
 subst hc
 by_cases a:o = .nil/\m=0
 ·obtain ⟨rfl,rfl⟩:=a
  have e0:=h.nilZ hs hn rfl
  subst e0
  have ec:ys=[]:=List.length_eq_zero_iff.1 hy
  subst ec
  refine ⟨.nil,rows,h.eqV (by simp),fun B L o2=>?_⟩
  simp [Gk,BE,he,Be,BG,hs]
 refine ⟨_,_,h.bump _,fun B L o2=>?_⟩
 cases o with
 | nil =>
  have a:0<m:=Nat.pos_of_ne_zero fun e=>a ⟨rfl,e⟩
  have e0:=h.nilZ hs hn rfl
  subst e0
  have ec:cs=[]:=List.length_eq_zero_iff.1 (by simpa using hn)
  subst ec
  simp only [Gk,BE,he,Be,BG,Cc,hs,hz,hy,a,Ae (Nat.ne_of_gt a),Nj,PS,List.length_nil,List.nil_append,Nat.zero_add,true_and,and_true,Prod.mk.injEq,eq_iff_iff,and_self]
  rw [Nat.zero_add] at hb hb2
  exact ⟨fun q=>q.2.2,fun q=>⟨hb,hb2,q⟩⟩
 | row id ver =>
  obtain ⟨id',ver',e,hlt,hv⟩:∃ id' ver',VO.row id ver = .row id' ver'/\id'<rows.length/\Df rows id' ver'=some (sz,cs):=by
   rcases h.veach _ (List.mem_cons_self ..) with q | ⟨id,ver,q1,q2,q3⟩
   ·cases q.1
   ·refine ⟨id,ver,q1,(Af.1 q3).1,?_⟩
    simp only [Df,q3,if_true]
  cases e
  have b:cs.take (n*sz)=cs:=List.take_of_length_le (by omega)
  have c:=hb
  simp only [Gk,BE,he,hv,Be,BG,Cc,hs,hz,hy,Nj,PS,b,Nat.le_of_eq hn.symm,true_and,and_true,Prod.mk.injEq,eq_iff_iff]
  exact ⟨fun q=>q.2.2,fun q=>⟨hb,hb2,q⟩⟩
theorem Owns.callV {rows':List RowA} {v':List VE} (h:Owns Rw rows l ho v) (hc:Owns rows rows' [] .none v'):Owns Rw rows' l ho (v'++v):=by
 have s:=h.len
 have t:=hc.len
 have keep:∀ i,i<rows.length->rows'[i]? = rows[i]? := fun i f=>hc.keep i f (fun q=>by cases q)
 have d:∀ x∈v,x.1.under rows.length:=h.underV
 have g:∀ x∈v',∀ id c,x.1 = .row id c->rows.length<=id:=fun x hx id c e=>by
  rcases hc.veach x hx with q | ⟨id',ver',q1,q2,q3⟩
  ·rw [q.1] at e;cases e
  ·rw [q1] at e;cases e;rcases q2 with q2 | q2;exact q2;cases q2
 refine ⟨by omega,fun i f o=>?_,fun i r j q n=>?_,fun x hx=>?_,h.apart,fun x hx=>?_,List.pairwise_append.2 ⟨hc.vapart,h.vapart,fun x hx y p id a b e k=>?_⟩⟩
 ·rw [keep i (by omega)];exact h.keep i f o
 ·by_cases e:rows.length<=i
  ·exact hc.calm i r j (.inl e) fun x hx=>n x (List.mem_append_left _ hx)
  ·rw [keep i (by omega)] at j
   exact h.calm i r j q fun x hx=>n x (List.mem_append_right _ hx)
 ·rcases h.each x hx with q | ⟨id,q1,q2,q3⟩
  ·exact .inl q
  ·exact .inr ⟨id,q1,q2,by rw [keep id (Af.1 q3).1];exact q3⟩
 ·rcases List.mem_append.1 hx with hx | hx
  ·rcases hc.veach x hx with q | ⟨id,c,q1,q2,q3⟩
   ·exact .inl q
   ·exact .inr ⟨id,c,q1,.inl (by rcases q2 with q2 | q2;omega;cases q2),q3⟩
  ·rcases h.veach x hx with q | ⟨id,c,q1,q2,q3⟩
   ·exact .inl q
   ·exact .inr ⟨id,c,q1,q2,by rw [keep id (Af.1 q3).1];exact q3⟩
 ·have u:=g x hx id a e
  have m:=d y p
  rw [k] at m
  exact absurd m (by simp only [VO.under];omega)
theorem Owns.dropV {x:VE} (h:Owns Rw rows l ho ((.nil,sz,cs)::v)):Owns Rw rows l ho v :=
 ⟨h.len,h.keep,fun i r c q b=>h.calm i r c q fun x hx=>by
  rcases List.mem_cons.1 hx with rfl | hx
  ·intro a k;cases k
  ·exact b x hx,h.each,h.apart,fun x hx=>h.veach x (List.mem_cons_of_mem _ hx),(List.pairwise_cons.1 h.vapart).2⟩
theorem Owns.deadV {id ver:Nat} (h:Owns Rw rows l ho ((.row id ver,sz,cs)::v)):Owns Rw (rows.set id (.dead (ver+1))) l ho v:=by
 obtain ⟨n,h1,d,g,j,c,f⟩:=h
 obtain ⟨hid,hrow⟩:(Rw.length<=id\/ho = .row id)/\rows[id]? = some (.vec ver sz cs):=by
  rcases c _ (List.mem_cons_self ..) with q | ⟨id',ver',q1,q2,q3⟩
  ·cases q.1
  ·cases q1;exact ⟨q2,q3⟩
 have b:=(Af.1 hrow).1
 obtain ⟨p1,p2⟩:=List.pairwise_cons.1 f
 refine ⟨by simpa using n,fun i hi hn=>?_,fun i r hr q m=>?_,fun x hx=>(g x hx).set hrow _,j,fun x hx=>?_,p2⟩
 ·rw [List.getElem?_set_ne (fun e=>by subst e;rcases hid with q | q;exact Nat.lt_irrefl _ (Nat.lt_of_lt_of_le hi q);exact hn q)];exact h1 i hi hn
 ·by_cases e:id=i
  ·subst e
   rw [List.getElem?_set_self b] at hr
   cases hr;rfl
  ·rw [List.getElem?_set_ne e] at hr
   refine d i r hr q fun x hx=>?_
   rcases List.mem_cons.1 hx with rfl | hx
   ·intro a k;cases k;exact e rfl
   ·exact m x hx
 ·exact (c x (List.mem_cons_of_mem _ hx)).set (fun a k=>p1 x hx id ver a rfl k) _
end
section
variable {P:Program} {w0:World} {n:Nat} {e:Env} {st:St} {M0:Mem} {W0:World} {ro:Option Nat} {Q:AQ} {c:Code}
variable {Rw:List RowA} {lw:List (Nat × Nat × Own)} {oh:Own} {v:List VE} {o:VO} {sz m:Nat} {cs xs:List AV}
theorem Kw (l i:Nat) {bs:List AV} (hl:st.boxes[l]? = some bs) (hi:bs[i]? = some (Gk o m)) (ho:Owns Rw st.rows lw oh ((o,sz,cs)::v)) (ag:Bool) (hag:ag=true\/sz=1) (hs:0<sz) (hn:cs.length=m*sz) (hx:M5 sz ag cs 0 m=xs)
  (h:∀ rows',Owns Rw rows' lw oh v->CW P w0 n M0 W0 ro c Q e { st with boxes:=st.boxes.set l (bs.set i (.list xs .none)),rows:=rows' }):CW P w0 n M0 W0 ro c Q e st:=by
 cases o with
 | nil =>
  have e0:=ho.nilZ hs hn rfl
  subst e0
  have ex:xs=[]:=by rw [<-hx];rfl
  subst ex
  exact Q7 l i hl hi rfl (h _ (ho.dropV (x:=(.nil,0,[]))))
 | row id ver =>
  rcases ho.veach _ (List.mem_cons_self ..) with q | ⟨id',ver',q1,q2,q3⟩
  ·cases q.1
  ·cases q1
   subst hx
   exact NX l i ag hl hi (by simp only [Df,q3,if_true]) hag (by rw [Nat.zero_add];omega) (h _ ho.deadV)
theorem ZdG (k:Nat) (hk:look e k=some (true,Gk o m)) (ho:Owns Rw st.rows lw oh ((o,sz,cs)::v)) (ag:Bool) (hag:ag=true\/sz=1) (hs:0<sz) (hn:cs.length=m*sz) (hx:M5 sz ag cs 0 m=xs)
  (h:∀ rows',Owns Rw rows' lw oh v->CW P w0 n M0 W0 ro c Q ((k,true,.list xs .none)::e) { st with rows:=rows' }):CW P w0 n M0 W0 ro c Q e st:=by
 cases o with
 | nil =>
  have e0:=ho.nilZ hs hn rfl
  subst e0
  have ex:xs=[]:=by rw [<-hx];rfl
  subst ex
  exact ZeY k hk (h _ (ho.dropV (x:=(.nil,0,[]))))
 | row id ver =>
  rcases ho.veach _ (List.mem_cons_self ..) with q | ⟨id',ver',q1,q2,q3⟩
  ·cases q.1
  ·cases q1
   subst hx
   exact XN k ag hk (by simp only [Df,q3,if_true]) hag (by rw [Nat.zero_add];omega) (h _ ho.deadV)
end
theorem PO {α:Type} {f:α->AV} {g:α->List AV} (sz:Nat) (hf:∀ x,f x = .agg (g x)) (hg:∀ x,(g x).length=sz) (xs:List α):M5 sz true (xs.flatMap fun x=>(f x).cells) 0 xs.length=xs.map f:=by
 have b:(xs.flatMap fun x=>(f x).cells)=xs.flatMap g:=by
  congr 1;funext x;rw [hf];rfl
 rw [b]
 refine List.ext_getElem (by simp [M5]) fun i c a=>?_
 simp only [List.length_map] at a
 simp only [M5,List.getElem_map,List.getElem_range,Nat.zero_add,OJ,if_true]
 rw [F9 sz hg (List.getElem?_eq_getElem a),hf]
theorem CJ {α:Type} {f:α->AV} {sz:Nat} (hf:∀ x,(f x).cells.length=sz) (xs:List α):(xs.flatMap fun x=>(f x).cells).length=xs.length*sz:=by
 induction xs with
 | nil=>simp
 | cons x xs ih=>rw [List.flatMap_cons,List.length_append,ih,hf,List.length_cons,Nat.succ_mul,Nat.add_comm]
theorem W7 {α:Type} {f:α->AV} {sz:Nat} (hf:∀ x,(f x).cells.length=sz) {xs:List α} {i:Nat} {x:α} (h:xs[i]? = some x) :
  (∀ j,j<sz->WC (xs.flatMap fun x=>(f x).cells) (i*sz+j)=WC (f x).cells j)/\(∀ j k,j+k<=sz->((xs.flatMap fun x=>(f x).cells).drop (i*sz+j)).take k=((f x).cells.drop j).take k):=by
 have a:=F9 (f:=fun x=>(f x).cells) sz hf h
 have c:∀ j k,j+k<=sz->((xs.flatMap fun x=>(f x).cells).drop (i*sz+j)).take k=((f x).cells.drop j).take k:=fun j k d=>by
  rw [<-a,List.drop_take,List.take_take,List.drop_drop,Nat.min_eq_left (by omega)]
 refine ⟨fun j e=>?_,c⟩
 have:=c j 1 (by omega)
 simp only [WC,List.getD_eq_getElem?_getD]
 have b:∀ (l:List AV) (q:Nat),l[q]? = ((l.drop q).take 1)[0]? := fun l q=>by simp [List.getElem?_take_of_lt,List.getElem?_drop]
 rw [b,b (f x).cells,this]
theorem Q6 {α:Type} {f:α->AV} {sz:Nat} (hf:∀ x,(f x).cells.length=sz) (y:α):∀ {xs:List α} {i:Nat} {x:α} {k:Nat} {c:List AV},xs[i]? = some x->k+c.length<=sz->(f y).cells=BH (f x).cells k c->BH (xs.flatMap fun x=>(f x).cells) (i*sz+k) c=(xs.set i y).flatMap fun x=>(f x).cells
 | [],i,x,k,c,h,_,_=>by simp at h
 | z::zs,0,x,k,c,h,hk,he=>by
  simp only [List.getElem?_cons_zero,Option.some.injEq] at h
  subst h
  have a:=hf z
  simp only [List.flatMap_cons,List.set_cons_zero,he,BH,Nat.zero_mul,Nat.zero_add]
  rw [List.take_append_of_le_length (by omega),List.drop_append_of_le_length (by omega)]
  simp only [List.append_assoc]
 | z::zs,i+1,x,k,c,h,hk,he=>by
  simp only [List.getElem?_cons_succ] at h
  have ih:=Q6 hf y (i:=i) (k:=k) h hk he
  have a:=hf z
  simp only [List.flatMap_cons,List.set_cons_succ,<-ih,BH]
  rw [show (i+1)*sz+k=(f z).cells.length+(i*sz+k) by rw [a,Nat.succ_mul];omega,List.take_append,List.take_of_length_le (by omega),Nat.add_sub_cancel_left,Nat.add_assoc,List.drop_append,List.drop_of_length_le (by omega),Nat.add_sub_cancel_left]
  simp only [List.nil_append,List.append_assoc]
section
variable {P:Program} {w0:World} {f:FuncId} {st:St}
def finV (st:St) (Post:AV->St->Prop) (r:AV) (s:St):Prop :=
 st.boxes.length<=s.boxes.length/\st.rows.length<=s.rows.length/\st.loops.length<=s.loops.length/\Calm st.boxes.length s.rows.length st.loops.length (s.cut st.boxes.length s.rows.length st.loops.length) /\
  Under st.boxes.length s.rows.length st.loops.length r/\Post r (s.cut st.boxes.length s.rows.length st.loops.length)
theorem ACalls.finV {args:List AV} {Post:AV->St->Prop} (h:ACalls P w0 f args st (finV st Post)):ACalls P w0 f args st Post:=by
 refine ⟨h.1,fun M w c a b=>(h.2 M w c a b).mono ?_⟩
 rintro en n ⟨v,M',r,d,l,⟨g,m,e,j,k,i⟩,h3,h4,h5⟩
 exact ⟨v,M'.cut st.boxes.length d.rows.length st.loops.length,r,_,l,i,h3.cut (by have:=a.N;omega) (by have:=a.NR;omega) (by have:=a.loop.NL;omega) (by rw [h4.loop.NL];exact e) (by rw [h4.N];exact g) (by rw [h4.NR];exact Nat.le_refl _),h4.cut g (Nat.le_refl _) e j,h5.cut (by have:=h4.loop.NL;omega) k⟩
theorem Ziu {B B' X:List (List AV)} {R0 rows:List RowA} {L l:List LoopA} {Post:AV->St->Prop} {r:AV} {ow:List (Nat × Nat × Own)} {v:List VE} (ho:Owns R0 rows ow .none v) (hc:Calm B.length R0.length L.length ⟨B',R0,L⟩) (hB:B'.length=B.length) (hu:Under B.length rows.length L.length r)
  (hv:∀ x∈v,∀ y∈x.2.2,Under B.length rows.length L.length y) (hp:Post r ⟨B',rows,L⟩):Go.Ev.finV ⟨B,R0,L⟩ Post r ⟨B'++X,rows,L++l⟩:=by
 have e:St.cut ⟨B'++X,rows,L++l⟩ B.length rows.length L.length=⟨B',rows,L⟩:=by simp [St.cut,<-hB]
 have d:=ho.len
 refine ⟨by simp [hB],d,by simp,?_,hu,by simp only [e];exact hp⟩
 simp only [e]
 exact ⟨ho.rowsCalm (Nat.le_refl _) hc.rows hv,fun cs a x b=>BQ (Nat.le_refl _) d (Nat.le_refl _) (hc.boxes cs a x b),fun f a k x b c=>BQ (Nat.le_refl _) d (Nat.le_refl _) (hc.loops f a k x b c)⟩
theorem XH {B B' X:List (List AV)} {R0 rows:List RowA} {L:List LoopA} {Post:AV->St->Prop} {r:AV} {ow:List (Nat × Nat × Own)} {v:List VE} (ho:Owns R0 rows ow .none v) (hc:Calm B.length R0.length L.length ⟨B',R0,L⟩) (hB:B'.length=B.length) (hu:Under B.length rows.length L.length r)
  (hv:∀ x∈v,∀ y∈x.2.2,Under B.length rows.length L.length y) (hp:Post r ⟨B',rows,L⟩):Go.Ev.finV ⟨B,R0,L⟩ Post r ⟨B'++X,rows,L⟩:=by
 have:=Ziu (X:=X) (l:=[]) ho hc hB hu hv hp
 rwa [List.append_nil] at this
end
abbrev VP (Rw:Am) (o:VO) (sz:Nat) (cs:List AV):Prop:=VAt 0 .none Rw (o,sz,cs)
theorem Owns.vp {Rw rows:List RowA} {l:List (Nat × Nat × Own)} {ho:Own} {v:List VE} {o:VO} {sz:Nat} {cs:List AV} (h:Owns Rw rows l ho ((o,sz,cs)::v)):VP rows o sz cs:=by
 rcases h.veach _ (List.mem_cons_self ..) with q | ⟨id,ver,q1,q2,q3⟩
 ·exact .inl q
 ·exact .inr ⟨id,ver,q1,.inl (Nat.zero_le _),q3⟩
theorem VP.up {Rw rows:List RowA} {o:VO} {sz:Nat} {cs:List AV} {l:List (Nat × Nat × Own)} {v:List VE} (h:VP Rw o sz cs) (ho:Owns Rw rows l .none v):VP rows o sz cs:=by
 rcases h with q | ⟨id,ver,q1,q2,q3⟩
 ·exact .inl q
 ·refine .inr ⟨id,ver,q1,q2,?_⟩
  rw [ho.keep id (Af.1 q3).1 (fun e=>by cases e)]
  exact q3
theorem VP.row {rows:List RowA} {o:VO} {sz:Nat} {cs:List AV} (h:VP rows o sz cs) (hne:0<cs.length):∃ id ver,o = .row id ver/\id<rows.length/\Df rows id ver=some (sz,cs):=by
 rcases h with q | ⟨id,ver,q1,q2,q3⟩
 ·have q2:cs=[]:=q.2
  rw [q2] at hne;simp at hne
 ·refine ⟨id,ver,q1,(Af.1 q3).1,?_⟩
  simp only [Df,q3,if_true]
theorem VP.lenV {rows:List RowA} {o:VO} {sz:Nat} {cs:List AV} (h:VP rows o sz cs) (hs:0<sz) {n:Nat} (hn:cs.length=n*sz) (P:Program) (t:TypeId):Q9 P t (Gk o n)=((GN P t).isSome=true,Ag n):=by
 cases o with
 | nil =>
  rcases h with q | ⟨id,ver,q1,q2,q3⟩
  ·have q2:cs=[]:=q.2
   rw [q2] at hn
   rcases Nat.eq_zero_or_pos n with w | w
   ·rw [w];rfl
   ·have:=Nat.mul_pos w hs
    simp at hn;omega
  ·cases q1
 | row id ver=>rfl
theorem VP.under {rows:List RowA} {o:VO} {sz:Nat} {cs:List AV} (h:VP rows o sz cs):o.under rows.length:=VAt.lt h
def WA:VO->Own
 | .nil => .none
 | .row id _ => .row id
theorem Wi {o:VO} {i:Nat} (h:WA o = .row i):∃ ver,o = .row i ver:=by
 cases o with
 | nil=>cases h
 | row id ver=>cases h;exact ⟨ver,rfl⟩
section
variable {Rw rows rows':List RowA} {l:List (Nat × Nat × Own)} {ho:Own} {v:List VE} {o o':VO} {sz:Nat} {cs cs':List AV}
theorem Owns.enterV (h:Owns Rw rows l ho ((o,sz,cs)::v)):Owns rows rows [] (WA o) [(o,sz,cs)]:=by
 refine ⟨Nat.le_refl _,fun _ _ _=>rfl,fun i r d q b=>?_,by simp,.nil,fun x c=>?_,by simp⟩
 ·rcases q with q | q
  ·have:=(Af.1 d).1;omega
  ·obtain ⟨a,e⟩:=Wi q
   exact absurd e (b _ (List.mem_singleton.2 rfl) a)
 ·rw [List.mem_singleton.1 c]
  rcases h.veach _ (List.mem_cons_self ..) with w | ⟨id,a,w1,w2,w3⟩
  ·exact .inl w
  ·refine .inr ⟨id,a,w1,.inr ?_,w3⟩
   simp only at w1
   rw [w1];rfl
theorem Owns.callG (h:Owns Rw rows l ho ((o,sz,cs)::v)) (hc:Owns rows rows' [] (WA o) [(o',sz,cs')]):Owns Rw rows' l ho ((o',sz,cs')::v):=by
 have hx:=h.veach _ (List.mem_cons_self ..)
 have g:=hc.veach _ (List.mem_cons_self ..)
 obtain ⟨p1,p2⟩:=List.pairwise_cons.1 h.vapart
 have u:=h.len
 have z:=hc.len
 have d:∀ i,WA o = .row i->(Rw.length<=i\/ho = .row i)/\∃ c,o = .row i c/\rows[i]? = some (.vec c sz cs):=fun i e=>by
  obtain ⟨c,e⟩:=Wi e
  rcases hx with q | ⟨id,f,q1,q2,q3⟩
  ·simp only at q;rw [e] at q;cases q.1
  ·simp only at q1;rw [e] at q1;cases q1
   exact ⟨q2,c,e,q3⟩
 have keep:∀ i,i<rows.length->WA o ≠ .row i->rows'[i]? = rows[i]? := fun i n j=>hc.keep i n j
 have m:∀ i b,o' = .row i b->rows.length<=i\/WA o = .row i:=fun i b e=>by
  rcases g with q | ⟨id,c,q1,q2,q3⟩
  ·simp only at q;rw [e] at q;cases q.1
  ·simp only at q1;rw [e] at q1;cases q1;exact q2
 refine ⟨by omega,fun i n j=>?_,fun i r p q s=>?_,fun x hxm=>?_,h.apart,fun x hxm=>?_,List.pairwise_cons.2 ⟨fun y t id a b e k=>?_,p2⟩⟩
 ·have:WA o ≠ .row i:=fun e=>by
   rcases (d i e).1 with q | q
   ·omega
   ·exact j q
  rw [keep i (by omega) this];exact h.keep i n j
 ·by_cases e:rows.length<=i\/WA o = .row i
  ·exact hc.calm i r p e fun x hx=>by rw [List.mem_singleton.1 hx];exact s _ (List.mem_cons_self ..)
  ·rw [keep i (by omega) (fun k=>e (.inr k))] at p
   refine h.calm i r p q fun x hx=>?_
   rcases List.mem_cons.1 hx with rfl | hx
   ·intro c k
    simp only at k
    exact e (.inr (by rw [k];rfl))
   ·exact s x (List.mem_cons_of_mem _ hx)
 ·rcases h.each x hxm with q | ⟨id,q1,q2,q3⟩
  ·exact .inl q
  ·refine .inr ⟨id,q1,q2,?_⟩
   rw [keep id (Af.1 q3).1 fun e=>by
    obtain ⟨_,c,_,w⟩:=d id e
    rw [w] at q3;cases q3]
   exact q3
 ·rcases List.mem_cons.1 hxm with rfl | hxm
  ·rcases g with q | ⟨id,c,q1,q2,q3⟩
   ·exact .inl q
   ·refine .inr ⟨id,c,q1,?_,q3⟩
    rcases q2 with q2 | q2
    ·exact .inl (by omega)
    ·exact (d id q2).1
  ·rcases h.veach x (List.mem_cons_of_mem _ hxm) with q | ⟨id,c,q1,q2,q3⟩
   ·exact .inl q
   ·refine .inr ⟨id,c,q1,q2,?_⟩
    rw [keep id (Af.1 q3).1 fun e=>by
     obtain ⟨_,f,w,_⟩:=d id e
     exact p1 x hxm id f c w q1]
    exact q3
 ·rcases m id a e with q | q
  ·have:=(h.veach y (List.mem_cons_of_mem _ t)).lt
   rw [k] at this
   exact absurd this (by simp only [VO.under];omega)
  ·obtain ⟨c,w⟩:=Wi q
   exact p1 y t id c b w k
end
end Go.Ev
namespace Go.Ev
open Go Go.RowKit Go.Shelf Go.Lib Go.Proofs
structure InsLay (P:Program) (ρ:Ren) (nm:String) (sz bytes:Nat) (z:Value):Prop where
 mixed:P.follows .mixedOrders=true
 nmo:nm ≠ "runtime.NumGoroutine"
 f22:P.funcs[ρ.f 22]? = some { Body2.n22 ρ with name:=nm }
 ov:∀ (w:World) (x y:Value),(Extern.SlicesOverlaps.overlaps #[ρ.t 24,ρ.t 24] #[ρ.t 4] #[x,y]).run P w = .ok (.bool false) w->(callFunc (ρ.f 29) #[x,y]).run P w = .ok (.value (.bool false)) w
 t0:P.underlying (ρ.t 0)=some (TypeDesc.tuple #[])
 a0:∀ w,(isAgg (ρ.t 0)).run P w = .ok false w
 z0:∀ w,(Go.sizeOf (ρ.t 0)).run P w = .ok 1 w
 v0:∀ w,(zeroValue (ρ.t 0)).run P w = .ok (Value.tuple #[]) w
 t3:P.underlying (ρ.t 3)=some (TypeDesc.int IntKind.i64)
 a3:∀ w,(isAgg (ρ.t 3)).run P w = .ok false w
 z3:∀ w,(Go.sizeOf (ρ.t 3)).run P w = .ok 1 w
 v3:∀ w,(zeroValue (ρ.t 3)).run P w = .ok (Value.int IntKind.i64 0) w
 t4:P.underlying (ρ.t 4)=some (TypeDesc.bool)
 a4:∀ w,(isAgg (ρ.t 4)).run P w = .ok false w
 z4:∀ w,(Go.sizeOf (ρ.t 4)).run P w = .ok 1 w
 v4:∀ w,(zeroValue (ρ.t 4)).run P w = .ok (Value.bool false) w
 z9:∀ w,(Go.sizeOf (ρ.t 9)).run P w = .ok sz w
 t24:P.underlying (ρ.t 24)=some (TypeDesc.slice (ρ.t 9))
 a24:∀ w,(isAgg (ρ.t 24)).run P w = .ok false w
 z24:∀ w,(Go.sizeOf (ρ.t 24)).run P w = .ok 1 w
 v24:∀ w,(zeroValue (ρ.t 24)).run P w = .ok (Value.slice none 0 0) w
 i9:(P.info? (ρ.t 9)).map (fun i=>(i.zero,i.size,i.bytes))=some (some z,sz,bytes)
theorem QU {P:Program} (w:World) (tS tR e:TypeId) (ht:P.underlying tS=some (.slice e)) (size:Nat) (hz:∀ w,(Go.sizeOf e).run P w = .ok size w)
  (a b:Addr) (la ca lb cb:Nat) (hne:a.block≠b.block) (tA tB:TypeId) (kA kB:Nat)
  (hsa:w.shape? a.block=some (tA,kA)) (hsb:w.shape? b.block=some (tB,kB)) (hkA:kA≠0) (hkB:kB≠0)
  (hfb:∀ j,w.frozen? { block:=b.block,off:=j }=false) (hb:b.spot=none) :
  (Extern.SlicesOverlaps.overlaps #[tS,tS] #[tR] #[.slice (some a) la ca,.slice (some b) lb cb]).run P w = .ok (.bool false) w:=by
 have d:(a.block != b.block)=true:=by simpa using hne
 have c:(a.block == b.block)=false:=by simpa using hne
 have f:w.frozen? b=false:=by
  obtain ⟨h,g,i⟩:=b
  cases hb
  exact hfb g
 change Sem.run P (α:=Value) (do
  let some t:=(#[tS,tS]:Array TypeId)[0]? | stuck "slices.overlaps: no parameter types"
  let .slice elem <- underlying t | stuck "slices.overlaps: slice type expected"
  let size <- sizeOf elem
  match (some a:Option Addr),(some b:Option Addr) with
  | some a,some b =>
   if la=0\/lb=0\/size=0 then pure (Value.bool false)
   else if a.block != b.block&&(<- frozen a)&&(<- frozen b) then unsupported .addressObserved
   else do
    if a.block != b.block then do
     noView a;noView b
     if <- mayBeOne a b then return Value.bool ((<- choose (.extern "sameAddr.stringBytes" 2)) == 1)
    pure (Value.bool (a.block == b.block&&a.off<b.off+lb*size&&b.off<a.off+la*size))
  | _,_=>pure (Value.bool false)) w=_
 by_cases h0:la=0\/lb=0\/size=0
 ·simp [run_underlying ht,hz,h0]
 ·cases kB with
  | zero=>exact absurd rfl hkB
  | succ kB =>
  cases kA with
  | zero=>exact absurd rfl hkA
  | succ kA =>
   cases hfa:w.frozen? a<;>cases hfe:w.frozen? { block:=a.block,off:=kA+1 } <;>
    simp [run_underlying ht,hz,h0,d,c,frozen,noView,viewAt,mayBeOne,stringish,shape,Sem.run,hsa,hsb,hfa,hfe,f,hfb]
section
variable {P:Program} {ρ:Ren} {nm:String} {sz bytes:Nat} {z:Value}
theorem Kr (w:World) (dT sT ty elem:TypeId) (b o dLen dCap:Nat) (a:Addr) (sLen sCap:Nat) (cs:List Value)
  (hu:P.underlying dT=some (.slice elem)) (hs:(P.info? elem).map (·.size)=some sz) (hn:cs.length=Nat.min sLen dLen*sz)
  (hsrc:∀ j v,cs[j]? = some v->w.cell? (a.add j)=some v) (hc:∀ j,j<cs.length->(w.cell? ⟨b,o+j,none⟩).isSome=true) (hf:∀ j,j<cs.length->w.frozen? ⟨b,o+j,none⟩=false) (h1:∀ v∈cs,v.oneCell'=true) :
  (Builtin.copy_ #[dT,sT] ty #[.slice (some ⟨b,o,none⟩) dLen dCap,.slice (some a) sLen sCap]).run P w = .ok (goInt (Nat.min sLen dLen)) (w.setCells b o cs):=by
 have d:=run_loadCells_list (P:=P) w a cs hsrc
 have c:=run_storeCells_cells (P:=P) b o cs 0 w (by simpa using hc) (by simpa using hf) h1
 rw [Nat.add_zero] at c
 rw [hn] at d
 cases hq:P.info? elem with
 | none=>simp [hq] at hs
 | some i =>
  have e:i.size=sz:=by simpa [hq] using hs
  simp [Builtin.copy_,run_underlying hu,Builtin.lenOf,Builtin.firstCells,sizeOf,typeInfo,hq,e,d,c]
theorem ZE (L:InsLay P ρ nm sz bytes z) (b off n c i vb voff m vc:Nat) (cs vs:List Value) (w:World) (hi:i<n) (hm:0<m) (hroom:n+m<=c) (hc63:c<=9223372036854775807) (hvb:vb≠b)
  (hcl:cs.length=n*sz) (hvl:vs.length=m*sz)
  (hcs:∀ j v,cs[j]? = some v->w.cell? ⟨b,off+j,none⟩=some v) (hsp:∀ j,j<n*sz+m*sz->(w.cell? ⟨b,off+j,none⟩).isSome=true) (hfz:∀ j,j<n*sz+m*sz->w.frozen? ⟨b,off+j,none⟩=false)
  (hvs:∀ j v,vs[j]? = some v->w.cell? ⟨vb,voff+j,none⟩=some v) (h1c:∀ v∈cs,v.oneCell'=true) (h1v:∀ v∈vs,v.oneCell'=true)
  (tA tB:TypeId) (kA kB:Nat) (hsa:w.shape? vb=some (tA,kA)) (hsb:w.shape? b=some (tB,kB)) (hkA:kA≠0) (hkB:kB≠0) (hfb:∀ j,w.frozen? ⟨b,j,none⟩=false) :
  Calls P (ρ.f 22) #[.slice (some ⟨b,off,none⟩) n c,.int .i64 i,.slice (some ⟨vb,voff,none⟩) m vc] w fun e w' =>
   e = .returned (.slice (some ⟨b,off,none⟩) (n+m) c)/\w'=(w.drew.setCells b (off+(i*sz+m*sz)) (cs.drop (i*sz))).setCells b (off+i*sz) vs:=by
 have t0:=L.t0;have a0:=L.a0;have z0:=L.z0;have v0:=L.v0;have t3:=L.t3;have a3:=L.a3;have z3:=L.z3;have v3:=L.v3;have t4:=L.t4;have a4:=L.a4;have z4:=L.z4;have v4:=L.v4;have z9:=L.z9;have t24:=L.t24;have a24:=L.a24;have z24:=L.z24;have v24:=L.v24
 have u0:=run_underlying L.t0;have u3:=run_underlying L.t3;have u4:=run_underlying L.t4;have u24:=run_underlying L.t24
 have hz1:¬ ((m:Int)=0):=by omega
 have hz2:¬ ((i:Int)=(n:Int)):=by omega
 have hsz:(P.info? (ρ.t 9)).map (·.size)=some sz:=by
  obtain ⟨i0,hi0,h0,h1,h2⟩:=info_parts L.i9
  rw [hi0];simp [h1]
 have mixed:=L.mixed
 have hw1:IntKind.i64.wrap ((i:Int)+(m:Int))=(i:Int)+(m:Int):=by rw [IntKind.wrap_i64];omega
 have hb1:(0:Int)<=(i:Int)+(m:Int):=by omega
 have hin:i<=n:=by omega
 have htn:((i:Int)+(m:Int)).toNat=i+m:=by omega
 have hb2:¬ (c=i+m):=by omega
 have hb3:(i:Int)<=(n:Int)+(m:Int):=by omega
 have hb4:¬ (c=i):=by omega
 have hAC:(i+m)*sz=i*sz+m*sz:=Nat.add_mul ..
 have hle:i*sz<=n*sz:=Nat.mul_le_mul_right _ hin
 have hsub:(n-i)*sz=n*sz-i*sz:=Nat.sub_mul ..
 have hov:∀ lb cb,(callFunc (ρ.f 29) #[.slice (some ⟨vb,voff,none⟩) m vc,.slice (some ⟨b,off+(i*sz+m*sz),none⟩) lb cb]).run P w = .ok (.value (.bool false)) w:=fun lb cb =>
  L.ov _ _ _ (QU w (ρ.t 24) (ρ.t 4) (ρ.t 9) L.t24 sz L.z9 ⟨vb,voff,none⟩ ⟨b,off+(i*sz+m*sz),none⟩ m vc lb cb hvb tA tB kA kB hsa hsb hkA hkB hfb rfl)
 have hdl:(cs.drop (i*sz)).length=n*sz-i*sz:=by rw [List.length_drop,hcl]
 have hcp1:∀ ty dc sc,(Builtin.copy_ #[(ρ.t 24),(ρ.t 24)] ty #[.slice (some ⟨b,off+(i*sz+m*sz),none⟩) (n+m-(i+m)) dc,.slice (some ⟨b,off+i*sz,none⟩) (n+m-i) sc]).run P w.drew = .ok (goInt ((n-i:Nat):Int)) (w.drew.setCells b (off+(i*sz+m*sz)) (cs.drop (i*sz))):=fun ty dc sc=>by
  have hmin:Nat.min (n+m-i) (n+m-(i+m))=n-i:=by simp only [Nat.min_def];split<;>omega
  have:=Kr (P:=P) w.drew (ρ.t 24) (ρ.t 24) ty (ρ.t 9) b (off+(i*sz+m*sz)) (n+m-(i+m)) dc ⟨b,off+i*sz,none⟩ (n+m-i) sc (cs.drop (i*sz)) L.t24 hsz (by rw [hdl,hmin,hsub])
   (fun j v hj=>by rw [Addr.add_lit,Nat.add_assoc];exact hcs (i*sz+j) v (by rwa [List.getElem?_drop] at hj))
   (fun j hj=>by rw [Nat.add_assoc];exact hsp _ (by omega)) (fun j hj=>by rw [Nat.add_assoc];exact hfz _ (by omega)) (fun v hv=>h1c v (List.mem_of_mem_drop hv))
  rwa [hmin] at this
 obtain ⟨W1,hW1⟩:∃ W1,W1=w.drew.setCells b (off+(i*sz+m*sz)) (cs.drop (i*sz)):=⟨_,rfl⟩
 have hsp1:∀ k,k<n*sz+m*sz->(W1.cell? ⟨b,off+k,none⟩).isSome=true:=fun k hk=>by
  rw [hW1]
  exact isSome_setCells b _ _ _ (fun j hj=>by rw [Nat.add_assoc];exact hsp _ (by omega)) _ (hsp k hk)
 have hcp2:∀ (W:World),(∀ x,W.cell? x=W1.cell? x)->(∀ x,W.frozen? x=W1.frozen? x)->∀ ty dc,(Builtin.copy_ #[(ρ.t 24),(ρ.t 24)] ty #[.slice (some ⟨b,off+i*sz,none⟩) (n+m-i) dc,.slice (some ⟨vb,voff,none⟩) m vc]).run P W = .ok (goInt m) (W.setCells b (off+i*sz) vs):=fun W hWc hWf ty dc=>by
  have hmin:Nat.min m (n+m-i)=m:=by simp only [Nat.min_def];split<;>omega
  have:=Kr (P:=P) W (ρ.t 24) (ρ.t 24) ty (ρ.t 9) b (off+i*sz) (n+m-i) dc ⟨vb,voff,none⟩ m vc vs L.t24 hsz (by rw [hvl,hmin])
   (fun j v hj=>by
    rw [Addr.add_lit,hWc,hW1,World.cell?_setCells_out b _ _ _ _ (fun h _=>absurd h hvb)]
    exact hvs j v hj)
   (fun j hj=>by rw [hWc,Nat.add_assoc];exact hsp1 _ (by omega)) (fun j hj=>by rw [hWf,hW1,World.frozen?_setCells,Nat.add_assoc];exact hfz _ (by omega)) h1v
  rwa [hmin] at this
 rw [<-hW1] at hcp1
 have FG:=L.f22
 go_enter FG,Body2.n22_ntmps ρ
 go_wp2_with (simp only [hov])
 go_region_law_o (refine step_copy_runI rfl _ _ (ρ.t 24) (ρ.t 24) rfl _ _ (by simp [Act.eval,Act.put]) (by simp [Act.eval,Act.put]) (hcp1 _ _ _) ?_)
 go_wp2_with (at_builtin;refine wpList_copy_runI _ rfl _ _ (ρ.t 24) (ρ.t 24) rfl _ _ rfl rfl (hcp2 _ (fun _=>rfl) (fun _=>rfl) _ _) ?_)
 go_ret
 first | exact ⟨rfl,rfl⟩ | exact ⟨rfl,by rw [hW1]⟩
theorem Za6 (L:InsLay P ρ nm sz bytes z) (hzc:z.cells.size=sz) (h0:0<sz) (b off n c i vb voff m vc:Nat) (cs vs:List Value) (w:World) (hi:i<n) (hm:0<m) (hnc:n<=c) (hroom:c<n+m) (hbig:(n+m)*bytes<=140737488355328) (hbig2:n+m<=4611686018427387904)
  (hcl:cs.length=n*sz) (hvl:vs.length=m*sz)
  (hcs:∀ j v,cs[j]? = some v->w.cell? ⟨b,off+j,none⟩=some v)
  (hvs:∀ j v,vs[j]? = some v->w.cell? ⟨vb,voff+j,none⟩=some v) (h1c:∀ v∈cs,v.oneCell'=true) (h1v:∀ v∈vs,v.oneCell'=true) :
  Calls P (ρ.f 22) #[.slice (some ⟨b,off,none⟩) n c,.int .i64 i,.slice (some ⟨vb,voff,none⟩) m vc] w fun e w' =>
   e = .returned (.slice (some ⟨w.heap.size,0,none⟩) (n+m) (grownCap w (n+m) c (ρ.t 9))) /\
   w'=(((w.alloc (.cells ((cs.take (i*sz)).toArray++Builtin.zeroCells z.cells (n+m-i)++Builtin.zeroCells z.cells (grownCap w (n+m) c (ρ.t 9)-(n+m))) (ρ.t 9))).drew.setCells w.heap.size (i*sz) vs).drew).setCells w.heap.size (i*sz+m*sz) (cs.drop (i*sz)):=by
 have t0:=L.t0;have a0:=L.a0;have z0:=L.z0;have v0:=L.v0;have t3:=L.t3;have a3:=L.a3;have z3:=L.z3;have v3:=L.v3;have t4:=L.t4;have a4:=L.a4;have z4:=L.z4;have v4:=L.v4;have z9:=L.z9;have t24:=L.t24;have a24:=L.a24;have z24:=L.z24;have v24:=L.v24
 have u0:=run_underlying L.t0;have u3:=run_underlying L.t3;have u4:=run_underlying L.t4;have u24:=run_underlying L.t24
 have mixed:=L.mixed
 obtain ⟨i0,hi0,hz0,hzs,hzb⟩:=info_parts L.i9
 have hz1:¬ ((m:Int)=0):=by omega
 have hz2:¬ ((i:Int)=(n:Int)):=by omega
 have hz3:(c:Int)<(n:Int)+(m:Int):=by omega
 have hsz:(P.info? (ρ.t 9)).map (·.size)=some sz:=by rw [hi0];simp [hzs]
 have hAC:(i+m)*sz=i*sz+m*sz:=Nat.add_mul ..
 have hle:i*sz<=n*sz:=Nat.mul_le_mul_right _ (by omega)
 have hpos:0<m*sz:=Nat.mul_pos hm h0
 have hsub:(n-i)*sz=n*sz-i*sz:=Nat.sub_mul ..
 have hNM:(n+m)*sz=n*sz+m*sz:=Nat.add_mul ..
 have hnsz:0<n*sz:=Nat.mul_pos (by omega) h0
 have hbw:b<w.heap.size:=block_lt_of_cell (hcs 0 _ (List.getElem?_eq_getElem (by omega)))
 have hvw:vb<w.heap.size:=block_lt_of_cell (hvs 0 _ (List.getElem?_eq_getElem (by omega)))
 have hkk:(n:Int)+(m:Int)-(i:Int)=((n+m-i:Nat):Int):=by omega
 have hik:i+(n+m-i)=n+m:=by omega
 have hold:(Builtin.firstCells i0.size i (.slice (some ⟨b,off,none⟩) i c)).run P w.drew = .ok (cs.take (i*sz)).toArray w.drew:=by
  rw [hzs]
  exact run_firstCells_some w.drew sz i ⟨b,off,none⟩ i c (cs.take (i*sz)) (by rw [List.length_take];omega) (fun j v hj=>by
   rw [Addr.add_lit]
   rw [List.getElem?_take] at hj
   split at hj
   ·exact hcs j v hj
   ·cases hj)
 have hneed:n+m<=maxLen:=by unfold maxLen;omega
 have hrz:∀ ty,(Builtin.append_ #[(ρ.t 24),(ρ.t 3)] ty #[.slice (some ⟨b,off,none⟩) i c,.int .i64 ((n:Int)+(m:Int)-(i:Int))]).run P w =
   .ok (.slice (some ⟨w.heap.size,0,none⟩) (n+m) (grownCap w (n+m) c (ρ.t 9))) (w.drew.alloc (.cells ((cs.take (i*sz)).toArray++Builtin.zeroCells z.cells (n+m-i)++Builtin.zeroCells z.cells (grownCap w (n+m) c (ρ.t 9)-(n+m))) (ρ.t 9))):=fun ty=>by
  have hbb:(n+m-i)*i0.bytes<=(n+m)*i0.bytes:=Nat.mul_le_mul_right _ (by omega)
  have h:=Lib.run_append_grow_zeros w (ρ.t 24) (ρ.t 3) ty (ρ.t 9) i0 _ .i64 .i64 L.t24 L.t3 hi0 hz0 (some ⟨b,off,none⟩) i c (cs.take (i*sz)) hold (n+m-i) (by omega) (by omega) (by omega) (by omega) (by rw [hzb] at hbb ⊢; omega) (by rw [hzb,hik];exact growslice_fits hroom hbig)
  rw [hik] at h
  rw [hkk]
  exact h
 obtain ⟨G,hG⟩:∃ G,G=grownCap w (n+m) c (ρ.t 9):=⟨_,rfl⟩
 have hGn:n+m<=G:=by rw [hG];exact grownCap_ge w _ _ _
 have hG63:G<=9223372036854775807:=by
  have:=grownCap_le_maxLen w (n+m) c (ρ.t 9) hneed
  rw [<-hG] at this
  unfold maxLen at this
  omega
 obtain ⟨ROW,hROW⟩:∃ ROW:Array Value,ROW=(cs.take (i*sz)).toArray++Builtin.zeroCells z.cells (n+m-i)++Builtin.zeroCells z.cells (G-(n+m)):=⟨_,rfl⟩
 rw [<-hG] at hrz ⊢
 rw [<-hROW] at hrz ⊢
 have hRl:n*sz+m*sz<=ROW.size:=by
  have e1:(n+m-i)*sz=n*sz+m*sz-i*sz:=by rw [Nat.sub_mul,hNM]
  rw [hROW]
  simp only [Array.size_append,List.size_toArray,List.length_take,size_zeroCells,hzc]
  omega
 obtain ⟨W1,hW1⟩:∃ W1,W1=w.drew.alloc (.cells ROW (ρ.t 9)):=⟨_,rfl⟩
 rw [<-hW1] at hrz
 have hN:∀ j,j<n*sz+m*sz->(W1.cell? ⟨w.heap.size,j,none⟩).isSome=true:=fun j hj=>by
  rw [hW1,World.cell?_alloc_at (w:=w.drew) ROW _ w.heap.size j rfl,Array.getElem?_eq_getElem (by omega)];rfl
 have hNf:∀ j,W1.frozen? ⟨w.heap.size,j,none⟩=false:=fun j=>by rw [hW1];exact World.frozen?_alloc_at (w:=w.drew) ROW _ w.heap.size j rfl
 have hOb:∀ j v,w.cell? ⟨b,j,none⟩=some v->W1.cell? ⟨b,j,none⟩=some v:=fun j v h=>by rw [hW1,World.cell?_alloc_past (w:=w.drew) _ b j hbw];exact h
 have hOv:∀ j v,w.cell? ⟨vb,j,none⟩=some v->W1.cell? ⟨vb,j,none⟩=some v:=fun j v h=>by rw [hW1,World.cell?_alloc_past (w:=w.drew) _ vb j hvw];exact h
 have hcpA:∀ (W:World),(∀ x,W.cell? x=W1.cell? x)->(∀ x,W.frozen? x=W1.frozen? x)->∀ ty dc,(Builtin.copy_ #[(ρ.t 24),(ρ.t 24)] ty #[.slice (some ⟨w.heap.size,i*sz,none⟩) (n+m-i) dc,.slice (some ⟨vb,voff,none⟩) m vc]).run P W = .ok (goInt m) (W.setCells w.heap.size (i*sz) vs):=fun W hWc hWf ty dc=>by
  have hmin:Nat.min m (n+m-i)=m:=by simp only [Nat.min_def];split<;>omega
  have:=Kr (P:=P) W (ρ.t 24) (ρ.t 24) ty (ρ.t 9) w.heap.size (i*sz) (n+m-i) dc ⟨vb,voff,none⟩ m vc vs L.t24 hsz (by rw [hvl,hmin])
   (fun j v hj=>by rw [Addr.add_lit,hWc];exact hOv _ v (hvs j v hj))
   (fun j hj=>by rw [hWc];exact hN _ (by omega)) (fun j hj=>by rw [hWf];exact hNf _) h1v
  rwa [hmin] at this
 have hGi:¬ (G=i):=by omega
 have hGim:¬ (G=i+m):=by omega
 have hci:¬ (c=i):=by omega
 have hbN:b≠w.heap.size:=by omega
 have hdl:(cs.drop (i*sz)).length=n*sz-i*sz:=by rw [List.length_drop,hcl]
 have hcpB:∀ (W:World),(∀ x,W.cell? x=(W1.setCells w.heap.size (i*sz) vs).cell? x)->(∀ x,W.frozen? x=(W1.setCells w.heap.size (i*sz) vs).frozen? x)->∀ ty dc sc,(Builtin.copy_ #[(ρ.t 24),(ρ.t 24)] ty #[.slice (some ⟨w.heap.size,i*sz+m*sz,none⟩) (n+m-(i+m)) dc,.slice (some ⟨b,off+i*sz,none⟩) (n-i) sc]).run P W = .ok (goInt ((n-i:Nat):Int)) (W.setCells w.heap.size (i*sz+m*sz) (cs.drop (i*sz))):=fun W hWc hWf ty dc sc=>by
  have hmin:Nat.min (n-i) (n+m-(i+m))=n-i:=by simp only [Nat.min_def];split<;>omega
  have:=Kr (P:=P) W (ρ.t 24) (ρ.t 24) ty (ρ.t 9) w.heap.size (i*sz+m*sz) (n+m-(i+m)) dc ⟨b,off+i*sz,none⟩ (n-i) sc (cs.drop (i*sz)) L.t24 hsz (by rw [hdl,hmin,hsub])
   (fun j v hj=>by
    rw [Addr.add_lit,hWc,World.cell?_setCells_out _ _ _ _ _ (fun h _=>absurd h hbN),Nat.add_assoc]
    exact hOb _ v (hcs (i*sz+j) v (by rwa [List.getElem?_drop] at hj)))
   (fun j hj=>by rw [hWc];exact isSome_setCells _ _ _ _ (fun t ht=>hN _ (by omega)) _ (hN _ (by omega)))
   (fun j hj=>by rw [hWf,World.frozen?_setCells];exact hNf _) (fun v hv=>h1c v (List.mem_of_mem_drop hv))
  rwa [hmin] at this
 subst hW1
 have hE1:∀ x,((w.alloc (.cells ROW (ρ.t 9))).drew).cell? x=(w.drew.alloc (.cells ROW (ρ.t 9))).cell? x:=fun x=>rfl
 have hE2:∀ x,((w.alloc (.cells ROW (ρ.t 9))).drew).frozen? x=(w.drew.alloc (.cells ROW (ρ.t 9))).frozen? x:=fun x=>rfl
 have hF1:∀ x,(((w.alloc (.cells ROW (ρ.t 9))).drew.setCells w.heap.size (i*sz) vs).drew).cell? x=((w.drew.alloc (.cells ROW (ρ.t 9))).setCells w.heap.size (i*sz) vs).cell? x:=fun x=>rfl
 have hF2:∀ x,(((w.alloc (.cells ROW (ρ.t 9))).drew.setCells w.heap.size (i*sz) vs).drew).frozen? x=((w.drew.alloc (.cells ROW (ρ.t 9))).setCells w.heap.size (i*sz) vs).frozen? x:=fun x=>rfl
 have hw1:IntKind.i64.wrap ((i:Int)+(m:Int))=(i:Int)+(m:Int):=by rw [IntKind.wrap_i64];omega
 have hb1:(0:Int)<=(i:Int)+(m:Int):=by omega
 have hin:i<=n:=by omega
 have htn:((i:Int)+(m:Int)).toNat=i+m:=by omega
 have hb3:(i:Int)<=(n:Int):=by omega
 clear hkk hik hold hROW hG hRl
 have FG:=L.f22
 rw [<-hAC] at hcpB ⊢
 go_enter FG,Body2.n22_ntmps ρ
 go_wp2_with (first
  | (at_builtin;refine Lib.wpList_append_run _ rfl _ _ _ _ rfl _ _ rfl rfl _ _ (hrz _) ?_)
  | (at_builtin;refine wpList_copy_runI _ rfl _ _ (ρ.t 24) (ρ.t 24) rfl _ _ rfl rfl (hcpA _ hE1 hE2 _ _) ?_)
  | (at_builtin;refine wpList_copy_runI _ rfl _ _ (ρ.t 24) (ρ.t 24) rfl _ _ rfl rfl (hcpB _ (fun _=>rfl) (fun _=>rfl) _ _ _) ?_))
 go_region_law_o (refine step_copy_runI rfl _ _ (ρ.t 24) (ρ.t 24) rfl (.slice (some ⟨w.heap.size,(i+m)*sz,none⟩) (n+m-(i+m)) (G-(i+m))) (.slice (some ⟨b,off+i*sz,none⟩) (n-i) (c-i)) (by simp [Act.eval,Act.put]) (by simp [Act.eval,Act.put]) (hcpB _ hF1 hF2 (ρ.t 3) (G-(i+m)) (c-i)) ?_)
 go_wp2
 go_ret
 exact ⟨rfl,by rw [hAC]⟩
theorem ZeF (L:InsLay P ρ nm sz bytes z) (base:Option Addr) (n c:Nat) (va:Addr) (m vc:Nat) (w w1:World) (r:Value) (hm:0<m) (hnc:n<=c) (hbase:base=none->n=0)
  (hrun:∀ ty,(Builtin.append_ #[(ρ.t 24),(ρ.t 24)] ty #[.slice base n c,.slice (some va) m vc]).run P w = .ok r w1) :
  Calls P (ρ.f 22) #[.slice base n c,.int .i64 n,.slice (some va) m vc] w fun e w'=>e = .returned r/\w'=w1:=by
 have t0:=L.t0;have a0:=L.a0;have z0:=L.z0;have v0:=L.v0;have t3:=L.t3;have a3:=L.a3;have z3:=L.z3;have v3:=L.v3;have t4:=L.t4;have a4:=L.a4;have z4:=L.z4;have v4:=L.v4;have z9:=L.z9;have t24:=L.t24;have a24:=L.a24;have z24:=L.z24;have v24:=L.v24
 have u0:=run_underlying L.t0;have u3:=run_underlying L.t3;have u4:=run_underlying L.t4;have u24:=run_underlying L.t24
 have mixed:=L.mixed
 have hz1:¬ ((m:Int)=0):=by omega
 have FG:=L.f22
 go_enter FG,Body2.n22_ntmps ρ
 cases base with
 | none =>
  have h0:=hbase rfl
  subst h0
  go_wp2_with (at_builtin;refine Lib.wpList_append_run _ rfl _ _ _ _ rfl _ _ rfl rfl _ _ (hrun _) ?_)
  go_ret
  exact ⟨rfl,rfl⟩
 | some a =>
  obtain ⟨ab,ao,asp⟩:=a
  go_wp2_with (at_builtin;refine Lib.wpList_append_run _ rfl _ _ _ _ rfl _ _ rfl rfl _ _ (hrun _) ?_)
  all_goals (go_ret;exact ⟨rfl,rfl⟩)
end
theorem F3 (P:Program) {w:World} {b:Nat} {cur:Array Value} {te:TypeId} (h:w.heap[b]? = some (.cells cur te (0,0))) (o:Nat) (vs:List Value) (hl:o+vs.length<=cur.size) (h1:∀ v∈vs,v.oneCell'=true) :
  w.setCells b o vs=w.setRow b (cur.toList.take o++vs++cur.toList.drop (o+vs.length)).toArray:=by
 have c:=run_storeCells_at P b o te vs 0 cur w h (by simpa using hl) h1
 have a:=run_storeCells_cells (P:=P) b o vs 0 w (fun j d=>by rw [cell_of_row w b _ cur te _ h,Array.getElem?_eq_getElem (by omega)];rfl) (fun j d=>by simp [World.frozen?,h]) h1
 simp only [Nat.add_zero] at c a
 rw [c] at a
 injection a with _ q
 exact q.symm
theorem Wc (w:World) (c c':Array Value) (te:TypeId):(w.alloc (.cells c te)).setRow w.heap.size c'=w.alloc (.cells c' te):=by
 unfold World.setRow World.alloc
 congr 1
 apply Array.ext
 ·simp
 ·intro i d b
  simp only [Array.getElem_modify]
  split
  ·subst i;simp
  ·rename_i hne
   have a:i<w.heap.size:=by
    have:i<w.heap.size+1:=by simpa using b
    omega
   rw [Array.getElem_push_lt a,Array.getElem_push_lt a]
theorem ZbX {α:Type} (A V:List α) (i n m:Nat) (hi:i<=n) (hA:n+m<=A.length) (hV:V.length=m) :
  (A.take (i+m)++(A.take n).drop i++A.drop (n+m)).take i++V++(A.take (i+m)++(A.take n).drop i++A.drop (n+m)).drop (i+m)=A.take i++V++(A.take n).drop i++A.drop (n+m):=by
 have e:(A.take (i+m)).length=i+m:=by rw [List.length_take];omega
 rw [List.append_assoc (A.take (i+m)),List.take_append_of_le_length (by omega),List.take_take,Nat.min_eq_left (by omega),List.drop_append_of_le_length (by omega),List.drop_of_length_le (by omega),List.nil_append]
 simp only [List.append_assoc]
section
variable {P:Program} {w0:World} {ρ:Ren} {nm:String} {sz bytes:Nat} {z:Value} {st:St} {M:Mem} {w:World}
theorem ZiN {A V rest:List Value} {cs Y:List AV} {i n m:Nat} (hi:i<=n) (hA:n<=A.length) (hc:cs.length=n) (hV:V.length=m) (hY:Y.length=m) (ha:∀ (j:Nat) (v:Value) (x:AV),A[j]? = some v->cs[j]? = some x->R w0 M w v x) (hv:∀ (j:Nat) (v:Value) (x:AV),V[j]? = some v->Y[j]? = some x->R w0 M w v x) :
  ∀ (j:Nat) (v:Value) (x:AV),(A.take i++V++(A.take n).drop i++rest)[j]? = some v->(cs.take i++Y++cs.drop i)[j]? = some x->R w0 M w v x:=by
 intro j v x b a
 have c:(A.take i).length=i:=by rw [List.length_take];omega
 have e:(cs.take i).length=i:=by rw [List.length_take];omega
 have f:((A.take n).drop i).length=n-i:=by rw [List.length_drop,List.length_take];omega
 simp only [List.append_assoc] at b a
 by_cases q:j<i
 ·rw [List.getElem?_append_left (by omega),List.getElem?_take,Ad q] at b a
  exact ha j v x b a
 rw [List.getElem?_append_right (by omega),c] at b
 rw [List.getElem?_append_right (by omega),e] at a
 by_cases q2:j-i<m
 ·rw [List.getElem?_append_left (by omega)] at b a
  exact hv _ v x b a
 rw [List.getElem?_append_right (by omega),hV] at b
 rw [List.getElem?_append_right (by omega),hY,List.getElem?_drop] at a
 have d:=(Af.1 a).1
 rw [List.getElem?_append_left (by omega),List.getElem?_drop,List.getElem?_take,Ab] at b
 exact ha _ v x b a
theorem Yv (L:InsLay P ρ nm sz bytes z) (hzc:z.cells.size=sz) (h0:0<sz) {id ver n i:Nat} {cs ys:List AV} {ow:Own} (hrow:st.rows[id]? = some (.vec ver sz cs)) (hcs:cs.length=n*sz) (hi:i<n) (hm:0<ys.length)
  (hx:∀ y∈ys,y.cells.length=sz/\A9 y=true) (hb:(n+ys.length)*bytes<=140737488355328) (hb2:n+ys.length<=4611686018427387904) {v0 vx:Value} (hst:RelSt w0 M st w) (hv0:R w0 M w v0 (.vec id ver 0 n)) (hvx:R w0 M w vx (.list ys ow)) :
  Calls P (ρ.f 22) #[v0,.int .i64 i,vx] w (Comes' w0 M w fun r s=>r = .vec id (ver+1) 0 (n+ys.length)/\s={ st with rows:=st.rows.set id (.vec (ver+1) sz (cs.take (i*sz)++ys.flatMap (fun y=>y.pub.cells)++cs.drop (i*sz))) }):=by
 have C:id<M.NR:=by rw [hst.NR];exact (Af.1 hrow).1
 obtain ⟨f1,f2,f3,f4,f5,f6,f7,cur,te,f8,f9,bi,ak,a2⟩:=hst.row id _ hrow
 cases hv0 with
 | @vec _ _ _ _ p cap hid' hver hh =>
 obtain ⟨rfl,hcap,av⟩:=hh f1.symm
 simp only [Nat.add_zero,Nat.zero_mul] at hcap ⊢
 subst hcap
 have ai:∀ (b o c:Nat),vx = .slice (some ⟨b,o,none⟩) ys.length c->M.imm w0 b o:=by
  cases hvx with
  | nil _=>simp at hm
  | emp _=>simp at hm
  | @list b0 off0 cap0 _ _ sz2 us hc hm' d hu ho =>
   intro b o c e
   have e0:=(d 0 hm).1
   have e1:=(hu 0 hm).cells.1
   have e2:=(hx _ (List.getElem_mem hm)).1
   have:=((d 0 hm).2 0 (by omega)).1
   cases e
   simpa using this
 obtain ⟨ux,x1,x2⟩:=hvx.list_open (fun y U=>(hx y U).1)
 have az:∀ i,i<ys.length->(ux i).cells.size=sz:=fun i hi=>(x1 i hi).1
 rcases x2 with ⟨_,q,_⟩ | ⟨bx,ox,cx',sz',rfl,hxc,hxm,_,hcx⟩
 ·subst q;simp at hm
 have ay:M.imm w0 bx ox:=ai bx ox cx' rfl
 have V:bx≠M.blk id:=by
  intro q
  rcases ay with k | k
  ·rw [q] at k;omega
  ·rw [q,f4] at k;omega
 have aq:=EB (w:=w) az h0 hcx
 have m:(flat ux ys.length).length=ys.length*sz:=Bg az
 have ao:(ys.flatMap fun y=>y.pub.cells).length=ys.length*sz:=Lr (fun y U=>(hx y U).1)
 have ad:=Wu (fun i hi=>(x1 i hi).2) (fun y U=>(hx y U).2)
 have Q:∀ v∈flat ux ys.length,v.oneCell'=true:=Sr x1 (fun y U=>(hx y U).2)
 have am:i*sz<=n*sz:=Nat.mul_le_mul_right _ (by omega)
 have aj:n*sz<=cur.size:=by rw [f9];exact Nat.mul_le_mul_right _ av
 have a9:0<ys.length*sz:=Nat.mul_pos hm h0
 have a7:0<n*sz:=Nat.mul_pos (by omega) h0
 have g:(cur.toList.take (n*sz)).length=n*sz:=by simp;omega
 have D:∀ v∈cur.toList.take (n*sz),v.oneCell'=true:=by
  intro v hv
  obtain ⟨k,hk,rfl⟩:=List.mem_iff_getElem.1 hv
  rw [g] at hk
  rw [List.getElem_take,Array.getElem_toList]
  exact (a2 k (by omega) (by omega)).oneCell (ak _ (List.getElem_mem _))
 have d:∀ j v,(cur.toList.take (n*sz))[j]? = some v->w.cell? ⟨M.blk id,0+j,none⟩=some v:=by
  intro j u hj
  rw [List.getElem?_take] at hj
  split at hj
  ·rw [Nat.zero_add,cell_of_row w _ j cur te _ f8,<-Array.getElem?_toList];exact hj
  ·cases hj
 have ag:∀ j v,(flat ux ys.length)[j]? = some v->w.cell? ⟨bx,ox+j,none⟩=some v:=fun j v hj=>by
  have:=aq j v hj
  rwa [Dx] at this
 have Z:∀ x∈cs.take (i*sz)++ys.flatMap (fun y=>y.pub.cells)++cs.drop (i*sz),x.one=true:=by
  intro x hx
  rcases List.mem_append.1 hx with hx | hx
  ·rcases List.mem_append.1 hx with hx | hx
   ·exact ak x (List.mem_of_mem_take hx)
   ·exact ad x hx
  ·exact ak x (List.mem_of_mem_drop hx)
 have F:(n+ys.length)*sz=n*sz+ys.length*sz:=Nat.add_mul ..
 have ax:(cs.take (i*sz)++ys.flatMap (fun y=>y.pub.cells)++cs.drop (i*sz)).length=(n+ys.length)*sz:=by
  rw [List.length_append,List.length_append,ao,List.length_take,List.length_drop,F];omega
 have E:∀ (cells:Array Value) (rest:List Value),cells.toList=cur.toList.take (i*sz)++flat ux ys.length++(cur.toList.take (n*sz)).drop (i*sz)++rest->∀ (k:Nat) (v:Value) (x:AV),cells[k]? = some v->(cs.take (i*sz)++ys.flatMap (fun y=>y.pub.cells)++cs.drop (i*sz))[k]? = some x->R w0 M w v x:=by
  intro cells rest a4 k v x a3 a8
  rw [<-Array.getElem?_toList,a4] at a3
  refine ZiN (A:=cur.toList) (rest:=rest) am (by simpa using aj) hcs m ao (fun j v x h1 h2=>?_) (fun j v x h1 h2=>Zff h0 x1 (fun y U=>(hx y U).1) h1 h2) k v x a3 a8
  rw [Array.getElem?_toList] at h1
  obtain ⟨q1,rfl⟩:=Array.getElem?_eq_some_iff.1 h1
  obtain ⟨q2,rfl⟩:=Af.1 h2
  exact a2 j q1 q2
 obtain ⟨d1,d2⟩:=hst.drew
 by_cases hroom:n+ys.length<=M.cap id
 ·-- there is room
  have aw:n*sz+ys.length*sz<=cur.size:=by rw [f9,<-F];exact Nat.mul_le_mul_right _ hroom
  have bc:∃ tA kA,w.shape? bx=some (tA,kA)/\kA≠0:=by
   have:=ag 0 _ (List.getElem?_eq_getElem (by omega))
   unfold World.cell? at this
   unfold World.shape?
   cases hq:w.heap[bx]? with
   | none=>simp [hq] at this
   | some o =>
    cases o with
    | cells c t f =>
     refine ⟨_,_,rfl,fun q=>?_⟩
     simp [hq] at this
     have:=(Array.getElem?_eq_some_iff.1 this).1
     omega
    | _=>simp [hq] at this
  obtain ⟨tA,kA,bb,bf⟩:=bc
  refine (ZE L (M.blk id) 0 n (M.cap id) i bx ox ys.length cx' (cur.toList.take (n*sz)) (flat ux ys.length) w hi hm hroom (by unfold maxLen at f6;omega) V g m d
   (fun j hj=>by rw [Nat.zero_add,cell_of_row w _ j cur te _ f8,Array.getElem?_eq_getElem (by omega)];rfl) (fun j hj=>by simp [World.frozen?,f8]) ag D Q tA te kA cur.size bb (by simp [World.shape?,f8]) bf (by omega) (fun j=>by simp [World.frozen?,f8])).mono ?_
  rintro en w' ⟨rfl,rfl⟩
  have G:w.drew.heap[M.blk id]? = some (.cells cur te (0,0)):=f8
  have K:((cur.toList.take (n*sz)).drop (i*sz)).length=n*sz-i*sz:=by rw [List.length_drop,g]
  rw [F3 P G _ _ (by rw [K];omega) (fun v hv=>D v (List.mem_of_mem_drop hv))]
  have ba:=setRow_heap w.drew (M.blk id) cur (cur.toList.take (0+(i*sz+ys.length*sz))++(cur.toList.take (n*sz)).drop (i*sz)++cur.toList.drop (0+(i*sz+ys.length*sz)+((cur.toList.take (n*sz)).drop (i*sz)).length)).toArray te _ G
  rw [F3 P ba _ _ (by simp only [List.size_toArray,List.length_append,List.length_take,List.length_drop,Array.length_toList];omega) Q,setRow_setRow]
  have hL:=ZbX cur.toList (flat ux ys.length) (i*sz) (n*sz) (ys.length*sz) am (by simpa using aw) m
  have e1:0+(i*sz+ys.length*sz)+((cur.toList.take (n*sz)).drop (i*sz)).length=n*sz+ys.length*sz:=by rw [K];omega
  have e2:0+i*sz+(flat ux ys.length).length=i*sz+ys.length*sz:=by rw [m];omega
  rw [e2,e1]
  simp only [Nat.zero_add]
  rw [hL]
  generalize hc':(cur.toList.take (i*sz)++flat ux ys.length++(cur.toList.take (n*sz)).drop (i*sz)++cur.toList.drop (n*sz+ys.length*sz)).toArray=cur'
  have ab:cur'.size=cur.size:=by rw [<-hc'];simp only [List.size_toArray,List.length_append,List.length_take,List.length_drop,Array.length_toList,m];omega
  have h:Ext w0 M w.drew (M.growRow id (M.blk id) (M.cap id) (ver+1) 0) (w.drew.setRow (M.blk id) cur'):=by
   refine GA (M:=M) (M.growRow id (M.blk id) (M.cap id) (ver+1) 0) rfl (fun _ _=>rfl) rfl (fun i hi=>?_) (fun b=>?_) G f3 (fun j hj=>by rw [f4] at hj;omega) (Mem.own_row C) (fun b=>I6 C)
   ·by_cases c:i=id
    ·subst c
     simp only [Mem.growRow,if_true,f1]
     exact ⟨by omega,fun q=>absurd q (by omega)⟩
    ·simp only [Mem.growRow,Ae c]
     exact ⟨Nat.le_refl _,fun _=>⟨trivial,trivial,trivial⟩⟩
   ·simp only [Mem.growRow]
    split
    ·rename_i c
     rw [c,f4]
     exact Nat.le_refl _
    ·exact Nat.le_refl _
  have ap:=hst.row_lt C
  have q:(M.growRow id (M.blk id) (M.cap id) (ver+1) 0).fr id=ver+1/\(M.growRow id (M.blk id) (M.cap id) (ver+1) 0).blk id=M.blk id/\(M.growRow id (M.blk id) (M.cap id) (ver+1) 0).cap id=M.cap id/\(M.growRow id (M.blk id) (M.cap id) (ver+1) 0).rsz id=M.rsz id/\(M.growRow id (M.blk id) (M.cap id) (ver+1) 0).top (M.blk id)=0:=by simp [Mem.growRow]
  obtain ⟨q1,q2,q3,q4,q5⟩:=q
  have J:=d1.growRow' hrow (x := .vec (ver+1) sz (cs.take (i*sz)++ys.flatMap (fun y=>y.pub.cells)++cs.drop (i*sz))) (w':=w.drew.setRow (M.blk id) cur') (b:=M.blk id) (cap:=M.cap id) (k:=ver+1) (tp:=0) (Below.setRow (Below.refl _ _) f3 _) (by simp) (by simpa using ap)
   (fun l hl=>⟨f5 l hl,setRow_other w.drew _ _ _ (f5 l hl)⟩) (fun i hi V=>by
    have:M.blk i≠M.blk id:=fun q=>V (hst.rowinj i id hi C q)
    exact ⟨this,setRow_other w.drew _ _ _ this⟩) (by
    simp only [RowOk,q1,q2,q3,q4,q5]
    exact ⟨trivial,f2,f3,trivial,f5,f6,h0,cur',te,setRow_heap w.drew _ cur cur' te _ G,ab.trans f9,by rw [ax,ab,f9];exact Nat.mul_le_mul_right _ hroom,Z,
     fun i a b=>((E cur' _ (by rw [<-hc']) i _ _ (Array.getElem?_eq_getElem a) (List.getElem?_eq_getElem b)).mono d2).mono h⟩) h (KeepsObj.setRow G _)
  exact ⟨_,_,_,_,rfl,⟨rfl,rfl⟩,d2.trans h,J,.vec C (by rw [q1];exact Nat.le_refl _) fun _=>⟨by rw [q2];simp,by rw [q3];rfl,hroom⟩⟩
 ·-- a new block
  refine (Za6 L hzc h0 (M.blk id) 0 n (M.cap id) i bx ox ys.length cx' (cur.toList.take (n*sz)) (flat ux ys.length) w hi hm av (by omega) hb hb2 g m d ag D Q).mono ?_
  rintro en w' ⟨rfl,rfl⟩
  have ae:n+ys.length<=maxLen:=by simp [maxLen];omega
  have ah:=grownCap_ge w (n+ys.length) (M.cap id) (ρ.t 9)
  have au:=grownCap_le_maxLen w (n+ys.length) (M.cap id) (ρ.t 9) ae
  generalize grownCap w (n+ys.length) (M.cap id) (ρ.t 9)=gc at *
  generalize hROW:((cur.toList.take (n*sz)).take (i*sz)).toArray++Builtin.zeroCells z.cells (n+ys.length-i)++Builtin.zeroCells z.cells (gc-(n+ys.length))=ROW
  have a5:(n+ys.length-i)*sz=n*sz+ys.length*sz-i*sz:=by rw [Nat.sub_mul,F]
  have bh:(gc-(n+ys.length))*sz=gc*sz-(n*sz+ys.length*sz):=by rw [Nat.sub_mul,F]
  have bj:n*sz+ys.length*sz<=gc*sz:=by rw [<-F];exact Nat.mul_le_mul_right _ ah
  have a0:ROW.size=gc*sz:=by
   rw [<-hROW]
   simp only [Array.size_append,List.size_toArray,List.length_take,size_zeroCells,hzc,Array.length_toList]
   omega
  have K:((cur.toList.take (n*sz)).drop (i*sz)).length=n*sz-i*sz:=by rw [List.length_drop,g]
  have hX:(w.alloc (.cells ROW (ρ.t 9))).drew.heap[w.heap.size]? = some (.cells ROW (ρ.t 9) (0,0)):=heap_alloc_new w _
  rw [F3 P hX _ _ (by rw [m,a0];omega) Q]
  have hX1:=setRow_heap (w.alloc (.cells ROW (ρ.t 9))).drew w.heap.size ROW (ROW.toList.take (i*sz)++flat ux ys.length++ROW.toList.drop (i*sz+(flat ux ys.length).length)).toArray (ρ.t 9) _ hX
  generalize hc1:(ROW.toList.take (i*sz)++flat ux ys.length++ROW.toList.drop (i*sz+(flat ux ys.length).length)).toArray=c1 at hX1 ⊢
  have bd:((w.alloc (.cells ROW (ρ.t 9))).drew.setRow w.heap.size c1).drew.heap[w.heap.size]? = some (.cells c1 (ρ.t 9) (0,0)):=hX1
  have aa:c1.size=gc*sz:=by
   rw [<-hc1]
   simp only [List.size_toArray,List.length_append,List.length_take,List.length_drop,Array.length_toList,m,a0]
   omega
  rw [F3 P bd _ _ (by rw [K,aa];omega) (fun v hv=>D v (List.mem_of_mem_drop hv))]
  generalize hc2:(c1.toList.take (i*sz+ys.length*sz)++(cur.toList.take (n*sz)).drop (i*sz)++c1.toList.drop (i*sz+ys.length*sz+((cur.toList.take (n*sz)).drop (i*sz)).length)).toArray=cells
  have hW:(((w.alloc (.cells ROW (ρ.t 9))).drew.setRow w.heap.size c1).drew).setRow w.heap.size cells=w.drew.drew.alloc (.cells cells (ρ.t 9)):=by
   have a1:((w.alloc (.cells ROW (ρ.t 9))).drew.setRow w.heap.size c1).drew=(w.drew.drew.alloc (.cells ROW (ρ.t 9))).setRow w.heap.size c1:=rfl
   rw [a1,setRow_setRow]
   exact Wc w.drew.drew ROW cells (ρ.t 9)
  rw [hW]
  have H:cells.size=gc*sz:=by
   rw [<-hc2]
   simp only [List.size_toArray,List.length_append,List.length_take,List.length_drop,Array.length_toList,K,aa]
   omega
  have af:(cur.toList.take (n*sz)).take (i*sz)=cur.toList.take (i*sz):=by rw [List.take_take,Nat.min_eq_left am]
  have bg:(cur.toList.take (i*sz)).length=i*sz:=by simp;omega
  have a6:ROW.toList.take (i*sz)=cur.toList.take (i*sz):=by
   rw [<-hROW,af]
   simp only [Array.toList_append,List.append_assoc]
   rw [List.take_append_of_le_length (by omega),List.take_of_length_le (by omega)]
  have O:cells.toList=cur.toList.take (i*sz)++flat ux ys.length++(cur.toList.take (n*sz)).drop (i*sz)++c1.toList.drop (i*sz+ys.length*sz+((cur.toList.take (n*sz)).drop (i*sz)).length):=by
   have e:c1.toList.take (i*sz+ys.length*sz)=cur.toList.take (i*sz)++flat ux ys.length:=by
    rw [<-hc1,a6]
    simp only [List.append_assoc]
    rw [<-List.append_assoc,List.take_append_of_le_length (by rw [List.length_append,m];omega),List.take_of_length_le (by rw [List.length_append,m];omega)]
   rw [<-hc2,<-e]
  obtain ⟨be,ar⟩:=d1.drew
  have h:Ext w0 M w.drew.drew (M.growRow id w.drew.drew.heap.size gc (ver+1) 0) (w.drew.drew.alloc (.cells cells (ρ.t 9))):=by
   refine On _ _ (.inl rfl) (fun _ _=>rfl) (Nat.le_refl _) (fun i hi=>?_) (fun b hb=>?_) (fun b hb=>Ld hb)
   ·by_cases c:i=id
    ·subst c
     simp only [Mem.growRow,if_true,f1]
     exact ⟨by omega,fun q=>absurd q (by omega)⟩
    ·simp only [Mem.growRow,Ae c]
     exact ⟨Nat.le_refl _,fun _=>⟨trivial,trivial,trivial⟩⟩
   ·simp only [Mem.growRow]
    rw [Aa]
  have q:(M.growRow id w.drew.drew.heap.size gc (ver+1) 0).fr id=ver+1/\(M.growRow id w.drew.drew.heap.size gc (ver+1) 0).blk id=w.drew.drew.heap.size/\(M.growRow id w.drew.drew.heap.size gc (ver+1) 0).cap id=gc/\(M.growRow id w.drew.drew.heap.size gc (ver+1) 0).rsz id=M.rsz id/\(M.growRow id w.drew.drew.heap.size gc (ver+1) 0).top w.drew.drew.heap.size=0:=by simp [Mem.growRow]
  obtain ⟨q1,q2,q3,q4,q5⟩:=q
  have Y:∀ l,l<M.N->M.bx l≠w.drew.drew.heap.size:=fun l hl=>by have:=hst.box_lt hl;intro q;simp at q;omega
  have J:=be.growRow' hrow (x := .vec (ver+1) sz (cs.take (i*sz)++ys.flatMap (fun y=>y.pub.cells)++cs.drop (i*sz))) (w':=w.drew.drew.alloc (.cells cells (ρ.t 9))) (b:=w.drew.drew.heap.size) (cap:=gc) (k:=ver+1) (tp:=0) ((Below.refl _ w.drew.drew).alloc hst.base_le _) (by simp) (by simp)
   (fun l hl=>by have:=hst.box_lt hl;exact ⟨Y l hl,Bh _ _ this⟩) (fun i hi V=>by have:=hst.row_lt hi;exact ⟨fun q=>by simp at q;omega,Bh _ _ this⟩) (by
    simp only [RowOk,q1,q2,q3,q4,q5]
    exact ⟨trivial,f2,hst.base_le,trivial,Y,au,h0,cells,ρ.t 9,heap_alloc_new w.drew.drew _,H,by rw [ax,H];exact Nat.mul_le_mul_right _ ah,Z,
     fun i a b=>(((E cells _ O i _ _ (Array.getElem?_eq_getElem a) (List.getElem?_eq_getElem b)).mono d2).mono ar).mono h⟩) h (KeepsObj.alloc _ _)
  exact ⟨_,_,_,_,rfl,⟨rfl,rfl⟩,(d2.trans ar).trans h,J,.vec C (by rw [q1];exact Nat.le_refl _) fun _=>⟨by rw [q2];simp,by rw [q3];rfl,ah⟩⟩
theorem XD {t el:TypeId} {ag:Bool} {o:VO} {n:Nat} {cs ys:List AV} {ow:Own} (he:GN P t=some (el,sz,ag,bytes)) (hz:(Bv P el).isSome=true) (h0:0<sz) (hV:VAt 0 .none st.rows (o,sz,cs)) (hcs:cs.length=n*sz) (hm:0<ys.length)
  (hx:∀ y∈ys,y.cells.length=sz/\A9 y=true) (hb:(n+ys.length)*bytes<=140737488355328) (hb2:n+ys.length<=4611686018427387904) :
  (BE P st t (Gk o n) (.list ys ow)).1/\(BE P st t (Gk o n) (.list ys ow)).2.1=Gk (Nj o st.rows) (n+ys.length)/\(BE P st t (Gk o n) (.list ys ow)).2.2={ st with rows:=PS o st.rows sz (cs++ys.flatMap fun y=>y.pub.cells) }:=by
 cases o with
 | nil =>
  rcases hV with ⟨_,q⟩ | ⟨id,ver,q,_⟩
  ·have q:cs=[]:=q
   subst q
   have en:n=0:=by
    rcases Nat.eq_zero_or_pos n with k | k
    ·exact k
    ·have:=Nat.mul_pos k h0
     simp at hcs;omega
   subst en
   rw [Nat.zero_add] at hb hb2
   simp only [Gk,BE,he,Be,BG,Cc,hz,Ae (Nat.ne_of_gt hm),Nj,PS,List.length_nil,List.nil_append,Nat.zero_add,true_and,and_true]
   exact ⟨⟨h0,hb,hb2,hx⟩,hm⟩
  ·cases q
 | row id ver =>
  rcases hV with ⟨q,_⟩ | ⟨id',ver',q,_,q3⟩
  ·cases q
  ·cases q
   have hv:Df st.rows id ver=some (sz,cs):=by
    have q3:st.rows[id]? = some (.vec ver sz cs):=q3
    simp only [Df,q3,if_true]
   have a:cs.take (n*sz)=cs:=List.take_of_length_le (by omega)
   simp only [Gk,BE,he,hv,Be,BG,Cc,hz,Nj,PS,a,Nat.le_of_eq hcs.symm,true_and,and_true]
   exact ⟨h0,hb,hb2,hx⟩
theorem SA (L:InsLay P ρ nm sz bytes z) (hen:HW P (ρ.f 22)) {ag:Bool} (he:GN P (ρ.t 24)=some (ρ.t 9,sz,ag,bytes)) (hz:(Bv P (ρ.t 9)).isSome=true) (hzc:z.cells.size=sz) (h0:0<sz) {o:VO} {n i:Nat} {cs ys:List AV} {ow:Own}
  (hV:VAt 0 .none st.rows (o,sz,cs)) (hcs:cs.length=n*sz) (hi:i<=n) (hm:0<ys.length)
  (hx:∀ y∈ys,y.cells.length=sz/\A9 y=true) (hb:(n+ys.length)*bytes<=140737488355328) (hb2:n+ys.length<=4611686018427387904) :
  ACalls P w0 (ρ.f 22) [Gk o n,Ag i,.list ys ow] st fun r s=>r=Gk (Nj o st.rows) (n+ys.length)/\s={ st with rows:=PS o st.rows sz (cs.take (i*sz)++ys.flatMap (fun y=>y.pub.cells)++cs.drop (i*sz)) }:=by
 refine ⟨hen,fun M w j m d=>?_⟩
 obtain ⟨v0,v1,vx,rfl⟩:∃ v0 v1 vx,j = #[v0,v1,vx]:=by
  have:=d.1
  simp only [List.length_cons,List.length_nil] at this
  obtain ⟨l⟩:=j
  match l,this with
  | [a,b,c],_=>exact ⟨a,b,c,rfl⟩
 have hv0:R w0 M w v0 (Gk o n):=d.2 0 (by simp) (by simp)
 have F:R w0 M w v1 (Ag i):=d.2 1 (by simp) (by simp)
 have hvx:R w0 M w vx (.list ys ow):=d.2 2 (by simp) (by simp)
 obtain ⟨rfl,_⟩:=F.val_inv
 by_cases hin:i<n
 ·-- in the middle
  cases o with
  | nil =>
   rcases hV with ⟨_,q⟩ | ⟨id,ver,q,_⟩
   ·have q:cs=[]:=q
    rw [q] at hcs
    have:=Nat.mul_pos (show 0<n by omega) h0
    simp at hcs;omega
   ·cases q
  | row id ver =>
   rcases hV with ⟨q,_⟩ | ⟨id',ver',q,_,q3⟩
   ·cases q
   ·cases q
    exact Yv L hzc h0 q3 hcs hin hm hx hb hb2 m hv0 hvx
 ·have hin:i=n:=by omega
  subst hin
  -- at the end: as append
  obtain ⟨g1,g2,g3⟩:=XD (st:=st) (ow:=ow) he hz h0 hV hcs hm hx hb hb2
  have V:Rel w0 2 M [(0,true,Gk o i),(1,true,.list ys ow)] st ⟨#[v0,vx],[]⟩ w:=⟨m,rfl,fun s x hs=>by
   simp only [look] at hs
   split at hs
   ·subst s;cases hs;simpa [entryOk] using hv0
   ·split at hs
    ·subst s;cases hs;simpa [entryOk] using hvx
    ·cases hs⟩
  obtain ⟨v,H,M',g,O,N,K⟩:=UO V (.tmp 0) (.tmp 1) (ρ.t 24) (ρ.t 24) (by simp [A4,look]) (by simp [A4,look]) g1
  have a0:(⟨#[v0,vx],[]⟩:Act).eval (.tmp 0)=v0:=rfl
  have a1:(⟨#[v0,vx],[]⟩:Act).eval (.tmp 1)=vx:=rfl
  rw [a0,a1] at g
  have D:(BE P st (ρ.t 24) (Au [(0,true,Gk o i),(1,true,AV.list ys ow)] (.tmp 0)) (Au [(0,true,Gk o i),(1,true,AV.list ys ow)] (.tmp 1))).2.1=Gk (Nj o st.rows) (i+ys.length):=g2
  have G:(BE P st (ρ.t 24) (Au [(0,true,Gk o i),(1,true,AV.list ys ow)] (.tmp 0)) (Au [(0,true,Gk o i),(1,true,AV.list ys ow)] (.tmp 1))).2.2={ st with rows:=PS o st.rows sz (cs++ys.flatMap fun y=>y.pub.cells) }:=g3
  rw [G] at N
  rw [D] at K
  have Z:cs.take (i*sz)=cs:=List.take_of_length_le (by omega)
  have hd:cs.drop (i*sz)=[]:=List.drop_of_length_le (by omega)
  rw [Z,hd,List.append_nil]
  have C:(Builtin.append_ #[ρ.t 24,ρ.t 24] (ρ.t 24) #[v0,vx]).run P w = .ok v H:=by
   cases hq:(Builtin.append_ #[ρ.t 24,ρ.t 24] (ρ.t 24) #[v0,vx]).run P w with
   | ok u w1 =>
    rcases g with g | ⟨g,_⟩
    ·simp [hq] at g
     rw [g.1,g.2]
    ·simp [hq] at g
   | _=>rcases g with g | ⟨g,_⟩<;>simp [hq] at g
  obtain ⟨ux,x1,x2⟩:=hvx.list_open (fun y U=>(hx y U).1)
  rcases x2 with ⟨_,q,_⟩ | ⟨bx,ox,cx',sz',rfl,_⟩
  ·subst q;simp at hm
  have h:∀ (base:Option Addr) (c:Nat),v0 = .slice base i c->i<=c->(base=none->i=0)->Calls P (ρ.f 22) #[v0,.int .i64 i,.slice (some ⟨bx,ox,none⟩) ys.length cx'] w (Comes' w0 M w fun r s=>r=Gk (Nj o st.rows) (i+ys.length)/\s={ st with rows:=PS o st.rows sz (cs++ys.flatMap fun y=>y.pub.cells) }):=fun base c e J Q=>by
   subst e
   exact (ZeF L base i c ⟨bx,ox,none⟩ ys.length cx' w H v hm J Q (fun ty=>C)).mono fun en aa ⟨q1,q2⟩=>by
    subst q1;subst q2
    exact ⟨_,_,_,_,rfl,⟨rfl,rfl⟩,O,N,K⟩
  cases o with
  | nil =>
   have ez:i=0:=by
    rcases hV with ⟨_,q⟩ | ⟨id,ver,q,_⟩
    ·have q:cs=[]:=q
     rw [q] at hcs
     rcases Nat.eq_zero_or_pos i with k | k
     ·exact k
     ·have:=Nat.mul_pos k h0
      simp at hcs;omega
    ·cases q
   subst ez
   have hv0':R w0 M w v0 (.list [] .seed):=hv0
   cases hv0' with
   | nil _=>exact h none 0 rfl (Nat.le_refl _) (fun _=>rfl)
   | @emp a _ _=>exact h (some a) 0 rfl (Nat.le_refl _) (fun _=>rfl)
   | list sz us J=>exact h _ _ rfl (Nat.zero_le _) (fun _=>rfl)
  | row id ver =>
   rcases hV with ⟨q,_⟩ | ⟨id',ver',q,_,q3⟩
   ·cases q
   ·cases q
    have Y:=(m.row id _ q3).1
    have hv0':R w0 M w v0 (.vec id ver 0 i):=hv0
    cases hv0' with
    | @vec _ _ _ _ p cap hid' hver hh =>
     obtain ⟨rfl,_,E⟩:=hh Y.symm
     exact h _ _ rfl E (fun q=>nomatch q)
end
def Hz:List Bool->List AV->List AV
 | b::m,a::l=>(if b=true then a.pubA else a)::Hz m l
 | [],l=>l.map AV.pubA
 | _::_,[]=>[]
@[go_sem] theorem Zj5 (m:List Bool) (a:AV) (l:List AV):Hz (true::m) (a::l)=a.pubA::Hz m l:=rfl
@[go_sem] theorem ZjG (m:List Bool) (a:AV) (l:List AV):Hz (false::m) (a::l)=a::Hz m l:=rfl
@[go_sem] theorem ZjF (l:List AV):Hz [] l=l.map AV.pubA:=rfl
@[go_sem] theorem Zka (m:List Bool):Hz m []=[]:=by cases m<;>rfl
theorem TI:∀ (m:List Bool) (l:List AV),(Hz m l).length=l.length/\∀ (i:Nat) (h1:i<(Hz m l).length) (h2:i<l.length),(Hz m l)[i]=l[i]\/(Hz m l)[i]=l[i].pubA
 | [],l=>⟨by simp [Hz],fun i h1 h2 => .inr (by simp [Hz])⟩
 | b::m,[]=>⟨rfl,fun i h1 h2=>absurd h2 (by simp)⟩
 | b::m,a::l=>by
  obtain ⟨h1,h2⟩:=TI m l
  refine ⟨by simp [Hz,h1],fun i c d=>?_⟩
  cases i with
  | zero=>cases b with
   | true=>exact .inr rfl
   | false=>exact .inl rfl
  | succ i=>exact h2 i (by simpa [Hz] using c) (by simpa using d)
section
variable {P:Program} {w0:World} {st:St} {f:FuncId}
theorem ACalls.mask {m:List Bool} {args args':List AV} {Post:AV->St->Prop} (h:ACalls P w0 f args' st Post) (he:Hz m args=args'):ACalls P w0 f args st Post:=by
 subst he
 obtain ⟨k,l⟩:=TI m args
 refine ⟨h.1,fun M w d e c=>h.2 M w d e ?_⟩
 obtain ⟨n,j⟩:=c
 refine ⟨by rw [k];exact n,fun i a b=>?_⟩
 have g:i<args.length:=by rw [<-k];exact b
 rcases l i b g with q | q
 ·rw [q];exact j i a g
 ·rw [q];exact (j i a g).pubA
theorem Zba {c d:Bool} {cs args args':List AV} {k:AV->St->Prop} (m:List Bool) (v:AV)
  (h:ACalls P w0 f args' st fun r s=>r=v/\s=st) (he:Hz m (args++cs)=args') (hk:k v st):I2 P w0 c d (.clo f cs) args st k := .inl ⟨v,fun _=>h.mask he,hk⟩
theorem Jj {cs args args':List AV} {k:AV->St->Prop} (m:List Bool) (Post:AV->St->Prop)
  (h:ACalls P w0 f args' st Post) (he:Hz m (args++cs)=args') (hk:∀ v s,Post v s->k v s):I2 P w0 true false (.clo f cs) args st k := .inr ⟨rfl,Post,fun _=>h.mask he,fun v s a _=>hk v s (a rfl)⟩
end
def Iz:List Bool->List AV->List AV
 | b::m,a::l=>(if b=true then a.pubCell else a)::Iz m l
 | [],l=>l.map AV.pubCell
 | _::_,[]=>[]
@[go_sem] theorem Zkc (m:List Bool) (a:AV) (l:List AV):Iz (true::m) (a::l)=a.pubCell::Iz m l:=rfl
@[go_sem] theorem ZjA (m:List Bool) (a:AV) (l:List AV):Iz (false::m) (a::l)=a::Iz m l:=rfl
@[go_sem] theorem ZjO (l:List AV):Iz [] l=l.map AV.pubCell:=rfl
@[go_sem] theorem Zkt (m:List Bool):Iz m []=[]:=by cases m<;>rfl
def pubS (m:List Bool):AV->AV
 | .agg cs => .agg (Iz m cs)
 | x=>x
@[go_sem] theorem Zis (m:List Bool) (cs:List AV):pubS m (.agg cs) = .agg (Iz m cs):=rfl
theorem S8:∀ (m:List Bool) (l:List AV),(Iz m l).length=l.length/\∀ (i:Nat) (h1:i<(Iz m l).length) (h2:i<l.length),(Iz m l)[i]=l[i]\/(Iz m l)[i]=l[i].pubCell
 | [],l=>⟨by simp [Iz],fun i h1 h2 => .inr (by simp [Iz])⟩
 | b::m,[]=>⟨rfl,fun i h1 h2=>absurd h2 (by simp)⟩
 | b::m,a::l=>by
  obtain ⟨h1,h2⟩:=S8 m l
  refine ⟨by simp [Iz,h1],fun i c d=>?_⟩
  cases i with
  | zero=>cases b with
   | true=>exact .inr rfl
   | false=>exact .inl rfl
  | succ i=>exact h2 i (by simpa [Iz] using c) (by simpa using d)
theorem R.pubS {w0:World} {M:Mem} {w:World} (m:List Bool) {v:Value} {x:AV} (h:R w0 M w v x):R w0 M w v (pubS m x):=by
 cases h with
 | @agg us xs hl h1 h =>
  obtain ⟨e,f⟩:=S8 m xs
  refine .agg (by rw [e];exact hl) (fun x g=>?_) (fun i a b=>?_)
  ·obtain ⟨i,d,rfl⟩:=List.mem_iff_getElem.1 g
   have c:i<xs.length:=by rw [<-e];exact d
   rcases f i d c with q | q
   ·rw [q];exact h1 _ (List.getElem_mem _)
   ·rw [q,AV.one_pubCell];exact h1 _ (List.getElem_mem _)
  ·have c:i<xs.length:=by rw [<-e];exact b
   rcases f i b c with q | q
   ·rw [q];exact h i a c
   ·rw [q];exact (h i a c).pubCell
 | nil ho=>exact .nil ho
 | emp ho=>exact .emp ho
 | list sz us hc hm hcell hu ho=>exact .list sz us hc hm hcell hu ho
 | flat hf=>exact .flat hf
 | tup hl h=>exact .tup hl h
 | elem u k hcell hu=>exact .elem u k hcell hu
 | box hl=>exact .box hl
 | clo hl h=>exact .clo hl h
 | bnd hl h=>exact .bnd hl h
 | yld hk=>exact .yld hk
 | mp hk=>exact .mp hk
 | tab h hk hn=>exact .tab h hk hn
 | vec d hv h=>exact .vec d hv h
 | vel d hv h=>exact .vel d hv h
def Zp (P:Program) (e:Env) (st:St):ResultVar->AV
 | .tmp t=>Au e (.tmp t)
 | .cell t ty=>(Bj P e true st (.load ty (.tmp t))).2.1
def Zfp (mk:List Bool) (P:Program) (rs:List ResultVar) (Post:AV->St->Prop):AQ:=fun x e st =>
 match x with
 | .normal | .ret=>(∀ r∈rs,SH P e st r)/\Post (pubS mk (WF (rs.map (Zp P e st)))) st
 | _=>False
attribute [go_sem] Zp Zfp
section
variable {P:Program} {w0:World} {n:Nat} {M:Mem} {e:Env} {st:St} {a:Act} {w:World}
theorem YM (mk:List Bool) (h:Rel w0 n M e st a w) {fn:Func} {rs:List ResultVar} (hfn:fn.results=rs.toArray) (hrs:∀ r∈rs,SH P e st r) :
  ∃ v,(results fn a.tmps).run P w = .ok v w/\R w0 M w v (pubS mk (WF (rs.map (Zp P e st)))):=by
 let f:ResultVar->Sem Value:=fun
  | .tmp t=>pure (a.tmps.getD t undef)
  | .cell b t=>do loadVar t (<- asAddr (a.tmps.getD b undef))
 have d:∀ r∈rs,∃ v,(f r).run P w = .ok v w/\R w0 M w v (Zp P e st r):=by
  intro r c
  have:=hrs r c
  cases r with
  | tmp t=>exact ⟨_,rfl,Bi h (x := .tmp t) this⟩
  | cell b t =>
   obtain ⟨v,m,k⟩:=TQ h t (.tmp b) this
   exact ⟨v,m,k⟩
 classical
 let g:ResultVar->Value:=fun r=>if c:r∈rs then Classical.choose (d r c) else undef
 have j:∀ r∈rs,(f r).run P w = .ok (g r) w/\R w0 M w (g r) (Zp P e st r):=by
  intro r c
  have:=Classical.choose_spec (d r c)
  have e:g r=Classical.choose (d r c):=by simp only [g,dif_pos c]
  rw [e];exact this
 have l:(fn.results.mapM f).run P w = .ok ((rs.map g).toArray) w:=by
  rw [hfn,Array.mapM_eq_mapM_toList]
  simp only [Sem.run_map,NN f g rs (fun r c=>(j r c).1),Result.andThen_ok]
 have i:(results fn a.tmps).run P w = .ok (if h:(rs.map g).toArray.size=1 then (rs.map g).toArray[0] else .tuple (rs.map g).toArray) w:=by
  unfold results
  simp only [Sem.run_bind]
  refine Eq.trans (congrArg (fun x=>Result.andThen x _) l) ?_
  simp only [Result.andThen_ok,Sem.run_pure]
 refine ⟨_,i,?_⟩
 exact R.pubS mk (SE rs g fun r c=>(j r c).2)
theorem OZ (mk:List Bool) {f:FuncId} {fn:Func} {c:Code} {args:List AV} {rs:List ResultVar} {Post:AV->St->Prop} (hf:P.funcs[f]? = some fn) (hb:fn.body=some c) (hrs:fn.results=rs.toArray) (hn:fn.ntmps=n)
  (hen:HW P f) (ha:args.length<=n)
  (h:∀ (M0:Mem) (W0:World),M0.N=st.boxes.length->M0.NR=st.rows.length->M0.NL=st.loops.length->Calm st.boxes.length st.rows.length st.loops.length st->(∀ x∈args,Under st.boxes.length st.rows.length st.loops.length x) ->
   CW P w0 n M0 W0 none c (Zfp mk P rs Post) (As 0 args) st):ACalls P w0 f args st Post:=by
 refine ⟨hen,fun M w a b d=>?_⟩
 have J:a.size=args.length:=d.1
 have H:∀ x∈args,Under st.boxes.length st.rows.length st.loops.length x:=by
  intro x K
  obtain ⟨i,z,rfl⟩:=List.mem_iff_getElem.1 K
  have:=(d.get (i:=i) (Array.getElem?_eq_getElem (by omega)) (List.getElem?_eq_getElem z)).under
  rwa [b.N,b.NR,b.loop.NL] at this
 have l:Rel w0 n M (As 0 args) st { tmps:=a++Array.replicate (fn.ntmps-a.size) undef,defers:=[] } w:=by
  refine ⟨b,by simp;omega,fun s x hs=>?_⟩
  obtain ⟨i,j,y,q,rfl⟩:=Pj _ _ _ _ hs
  have z:i<args.length:=(Af.1 q).1
  have hs':s=i:=by omega
  subst hs'
  simp only [entryOk,if_true]
  have E:(a++Array.replicate (fn.ntmps-a.size) undef).getD s undef=a[s]'(by omega):=by
   simp [Array.getD_eq_getD_getElem?,Array.getElem?_append_left (show s<a.size by omega),Array.getElem?_eq_getElem (show s<a.size by omega)]
  rw [E]
  exact d.get (Array.getElem?_eq_getElem (by omega)) q
 refine Rk (n:=0) (callsIn_of_wp_marks hf hb trivial (wpIn_mono (h M w b.N b.NR b.loop.NL b.calm H 0 M _ w ⟨l,.refl _ _ _,[],by simp⟩) ?_))
 rintro ex o u ⟨M',p,k,j,m⟩
 have e:∀ (t:∀ r∈rs,SH P p k r) (D:Post (pubS mk (WF (rs.map (Zp P p k)))) k),
   LeavesInM (FW none) 0 P fn o.tmps (Comes' w0 M w Post) o.defers .returning u:=by
  intro t D
  obtain ⟨Ds,m1,m2,F⟩:=j.marks
  rw [m2]
  refine LI Ds M' u m1 F b.base_le j.rel.st j.ext fun G C O k3=>?_
  have g:Rel w0 n M' p k o G:=⟨C,j.rel.size,fun s x hs=>by
   have:=j.rel.env s x hs
   unfold entryOk at *
   split
   ·rename_i c;rw [Ad c] at this;exact k3 _ _ this
   ·rename_i c;rw [Ae c] at this;exact this⟩
  obtain ⟨v,q1,q2⟩:=YM mk g hrs t
  exact ⟨v,q1,v,M',_,k,rfl,D,O,C,q2⟩
 cases ex with
 | normal=>exact e m.1 m.2
 | ret=>exact e m.1 m.2
 | _=>exact m.elim
end
end Go.Ev
