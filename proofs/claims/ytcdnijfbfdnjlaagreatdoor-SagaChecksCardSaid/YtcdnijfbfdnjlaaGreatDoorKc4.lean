/-
  Part 4 of the proof: rules and walks that the claim's last text uses.
-/
import Derived.Carry
import Derived.ChangeOld
import Derived.ChangeSlices
import Derived.Deep.DeepHandedRow
import Derived.Deep.DeepWitnessRowRef
import Derived.Lib.AppendZeros
import Derived.Lib.Bytealg
import Derived.Lib.LaidIn
import Derived.Lib.LaidU8T
import Derived.PinnedBridge
import Derived.ProofKit
import Derived.SevenTiedAt
import Derived.Shelf.SlSortCmp.WholeK
import Derived.Shelf.SlicesE.Clone
import Derived.SizedLaws
import Derived.Sort.Lot0
import Derived.Test.YtcdnijfbfdnjlaaGreatDoorCards
import Derived.Test.YtcdnijfbfdnjlaaGreatDoorProg
import Derived.Test.YtcdnijfbfdnjlaaGreatDoorRows
import Derived.Test.YtcdnijfbfdnjlaaGreatDoorTie
import Derived.Test.YtcdnijfbfdnjlaaGreatDoorKc3
set_option linter.unusedSimpArgs false
set_option linter.unusedVariables false
set_option maxRecDepth 100000
set_option maxHeartbeats 4000000
namespace Go.Proofs.YtcdnijfbfdnjlaaGreatDoor
open Go Go.RowKit Go.Ev
structure Part where
 kind:Int
 index:Int
 name:ByteArray
structure Itm where
 v:Vl
 level:Int
structure Lim where
 name:ByteArray
 low:Int
 high:Int
 bounds:Bool
 scale:Bool
 text:Bool
 list:Bool
 fields:Bool
structure Sch where
 name:ByteArray
 version:Int
 type:Ty
theorem Vl.under_mem0 (nb nr nl:Nat) (v:Vl):(∀ x∈v.cs,Under nb nr nl x)↔True:=iff_true_intro (v.under nb nr nl)
theorem Ty.under_mem0 (nb nr nl:Nat) (v:Ty):(∀ x∈v.cs,Under nb nr nl x)↔True:=iff_true_intro (v.under nb nr nl)
structure Msg where
 stamp:Int × List Int
 mass:Int
 origins:List Int
 body:Vl
structure Slt where
 key:Vl
 number:Int
 time:Int
 items:List Msg
 values:List Vl
structure Stt where
 number:Int
 time:Int
 slots:List Slt
structure Nod where
 name:ByteArray
 kind:Int
 schema:Int
 result:Int
 number:Int
 time:Int
 limit:Int
 text:ByteArray
 type:Ty
 types:List Ty
 exprs:List Ex
 mapping:List (ByteArray × Ex)
 calls:List (ByteArray × List (ByteArray × Ex))
 next:List Int
structure Chk where
 items:List Msg
 values:Int
def UO {α:Type} (f:α→AV) (l:List α):AV := .list (l.map f) .none
@[go_sem] theorem HT {α:Type} (f:α→AV) (l:List α):UO f l = .list (l.map f) .none:=rfl
@[go_sem] theorem ZjG {α:Type} (f:α→AV) (l:List α) (n:Nat):(l.map f).take n=(l.take n).map f:=List.map_take.symm
@[go_sem] theorem Zi9 {α:Type} (f:α→AV) (l:List α) (n:Nat):(l.map f).drop n=(l.drop n).map f:=List.map_drop.symm
attribute [go_sem] List.length_map List.take_length
@[go_sem] theorem Vl.gs (v:Vl) (l:List AV) (d:AV):(v.cs++l).getD 6 d=l.getD 0 d∧(v.cs++l).getD 7 d=l.getD 1 d∧(v.cs++l).getD 8 d=l.getD 2 d∧(v.cs++l).getD 9 d=l.getD 3 d∧(v.cs++l).getD 10 d=l.getD 4 d∧(v.cs++l).getD 11 d=l.getD 5 d∧(v.cs++l).getD 12 d=l.getD 6 d∧(v.cs++l).getD 13 d=l.getD 7 d∧(v.cs++l).getD 14 d=l.getD 8 d∧(v.cs++l).getD 15 d=l.getD 9 d:=by cases v;(repeat' apply Ad)<;>rfl
@[go_sem] theorem Vl.ds (v:Vl) (l:List AV):(v.cs++l).drop 6=l.drop 0∧(v.cs++l).drop 7=l.drop 1∧(v.cs++l).drop 8=l.drop 2∧(v.cs++l).drop 9=l.drop 3∧(v.cs++l).drop 10=l.drop 4∧(v.cs++l).drop 11=l.drop 5∧(v.cs++l).drop 12=l.drop 6∧(v.cs++l).drop 13=l.drop 7∧(v.cs++l).drop 14=l.drop 8∧(v.cs++l).drop 15=l.drop 9:=by cases v;(repeat' apply Ad)<;>rfl
@[go_sem] theorem Vl.ts (v:Vl) (l:List AV):(v.cs++l).take 7=v.cs++l.take 1∧(v.cs++l).take 8=v.cs++l.take 2∧(v.cs++l).take 9=v.cs++l.take 3∧(v.cs++l).take 10=v.cs++l.take 4∧(v.cs++l).take 11=v.cs++l.take 5∧(v.cs++l).take 12=v.cs++l.take 6∧(v.cs++l).take 13=v.cs++l.take 7∧(v.cs++l).take 14=v.cs++l.take 8∧(v.cs++l).take 15=v.cs++l.take 9:=by cases v;(repeat' apply Ad)<;>rfl
@[go_sem] theorem Ty.gs (t:Ty) (l:List AV) (d:AV):(t.cs++l).getD 7 d=l.getD 0 d∧(t.cs++l).getD 8 d=l.getD 1 d∧(t.cs++l).getD 9 d=l.getD 2 d∧(t.cs++l).getD 10 d=l.getD 3 d∧(t.cs++l).getD 11 d=l.getD 4 d∧(t.cs++l).getD 12 d=l.getD 5 d∧(t.cs++l).getD 13 d=l.getD 6 d∧(t.cs++l).getD 14 d=l.getD 7 d∧(t.cs++l).getD 15 d=l.getD 8 d∧(t.cs++l).getD 16 d=l.getD 9 d∧(t.cs++l).getD 17 d=l.getD 10 d∧(t.cs++l).getD 18 d=l.getD 11 d∧(t.cs++l).getD 19 d=l.getD 12 d∧(t.cs++l).getD 20 d=l.getD 13 d∧(t.cs++l).getD 21 d=l.getD 14 d∧(t.cs++l).getD 22 d=l.getD 15 d∧(t.cs++l).getD 23 d=l.getD 16 d∧(t.cs++l).getD 24 d=l.getD 17 d:=by cases t;(repeat' apply Ad)<;>rfl
@[go_sem] theorem Ty.ds (t:Ty) (l:List AV):(t.cs++l).drop 7=l.drop 0∧(t.cs++l).drop 8=l.drop 1∧(t.cs++l).drop 9=l.drop 2∧(t.cs++l).drop 10=l.drop 3∧(t.cs++l).drop 11=l.drop 4∧(t.cs++l).drop 12=l.drop 5∧(t.cs++l).drop 13=l.drop 6∧(t.cs++l).drop 14=l.drop 7∧(t.cs++l).drop 15=l.drop 8∧(t.cs++l).drop 16=l.drop 9∧(t.cs++l).drop 17=l.drop 10∧(t.cs++l).drop 18=l.drop 11∧(t.cs++l).drop 19=l.drop 12∧(t.cs++l).drop 20=l.drop 13∧(t.cs++l).drop 21=l.drop 14∧(t.cs++l).drop 22=l.drop 15∧(t.cs++l).drop 23=l.drop 16∧(t.cs++l).drop 24=l.drop 17:=by cases t;(repeat' apply Ad)<;>rfl
@[go_sem] theorem Ty.ts (t:Ty) (l:List AV):(t.cs++l).take 8=t.cs++l.take 1∧(t.cs++l).take 9=t.cs++l.take 2∧(t.cs++l).take 10=t.cs++l.take 3∧(t.cs++l).take 11=t.cs++l.take 4∧(t.cs++l).take 12=t.cs++l.take 5∧(t.cs++l).take 13=t.cs++l.take 6∧(t.cs++l).take 14=t.cs++l.take 7∧(t.cs++l).take 15=t.cs++l.take 8∧(t.cs++l).take 16=t.cs++l.take 9∧(t.cs++l).take 17=t.cs++l.take 10∧(t.cs++l).take 18=t.cs++l.take 11∧(t.cs++l).take 19=t.cs++l.take 12∧(t.cs++l).take 20=t.cs++l.take 13∧(t.cs++l).take 21=t.cs++l.take 14∧(t.cs++l).take 22=t.cs++l.take 15∧(t.cs++l).take 23=t.cs++l.take 16∧(t.cs++l).take 24=t.cs++l.take 17:=by cases t;(repeat' apply Ad)<;>rfl
@[go_sem] theorem Vl.hs (v:Vl) (l:List AV) (d:AV):(v.cs++l).getD 0 d = .val (.int .i64 v.kind)∧(v.cs++l).getD 1 d = .val (.int .i64 v.int)∧(v.cs++l).getD 2 d = .val (.int .i64 v.scale)∧(v.cs++l).getD 3 d = .val (.string v.text)∧(v.cs++l).getD 4 d = .list (CZ v.list) .none∧(v.cs++l).getD 5 d = .list (Gs v.fields) .none:=by cases v;(repeat' apply Ad)<;>rfl
def C4 (x:Int):AV:=Ak x
@[go_sem] theorem HQ (x:Int):C4 x=Ak x:=rfl
@[go_sem] theorem Zhf (l:List (Int)):(∀ y∈l.map C4,y.cells.length=1)↔True:=iff_true_intro fun y a=>by
 obtain ⟨x,_,rfl⟩:=List.mem_map.1 a
 simp +decide only [go_sem]
@[go_sem] theorem Zlq (l:List (Int)):(∀ y∈l.map C4,y.cells.length=1∧Ax y=true)↔True:=iff_true_intro fun y a=>by
 obtain ⟨x,_,rfl⟩:=List.mem_map.1 a
 simp +decide only [go_sem]
@[go_sem] theorem ZhC (nb nr nl:Nat) (l:List (Int)):(∀ y∈l.map C4,Under nb nr nl y)↔True:=iff_true_intro fun y a=>by
 obtain ⟨x,_,rfl⟩:=List.mem_map.1 a
 exact .val _
@[go_sem] theorem Zkn (l:List (Int)):(l.map C4).map AV.pub=l.map C4:=by
 rw [List.map_map]
 refine List.map_congr_left fun x _=>?_
 simp +decide only [Function.comp,go_sem]
def avB (x:Bool):AV := .val (.bool x)
@[go_sem] theorem HI (x:Bool):avB x = .val (.bool x):=rfl
@[go_sem] theorem ZhY (l:List (Bool)):(∀ y∈l.map avB,y.cells.length=1)↔True:=iff_true_intro fun y a=>by
 obtain ⟨x,_,rfl⟩:=List.mem_map.1 a
 simp +decide only [go_sem]
@[go_sem] theorem Zk6 (l:List (Bool)):(∀ y∈l.map avB,y.cells.length=1∧Ax y=true)↔True:=iff_true_intro fun y a=>by
 obtain ⟨x,_,rfl⟩:=List.mem_map.1 a
 simp +decide only [go_sem]
@[go_sem] theorem Zhm (nb nr nl:Nat) (l:List (Bool)):(∀ y∈l.map avB,Under nb nr nl y)↔True:=iff_true_intro fun y a=>by
 obtain ⟨x,_,rfl⟩:=List.mem_map.1 a
 exact .val _
@[go_sem] theorem ZjM (l:List (Bool)):(l.map avB).map AV.pub=l.map avB:=by
 rw [List.map_map]
 refine List.map_congr_left fun x _=>?_
 simp +decide only [Function.comp,go_sem]
def JO (x:ByteArray):AV := .val (.string x)
@[go_sem] theorem HH (x:ByteArray):JO x = .val (.string x):=rfl
@[go_sem] theorem Zhl (l:List (ByteArray)):(∀ y∈l.map JO,y.cells.length=1)↔True:=iff_true_intro fun y a=>by
 obtain ⟨x,_,rfl⟩:=List.mem_map.1 a
 simp +decide only [go_sem]
@[go_sem] theorem Zk0 (l:List (ByteArray)):(∀ y∈l.map JO,y.cells.length=1∧Ax y=true)↔True:=iff_true_intro fun y a=>by
 obtain ⟨x,_,rfl⟩:=List.mem_map.1 a
 simp +decide only [go_sem]
@[go_sem] theorem ZhX (nb nr nl:Nat) (l:List (ByteArray)):(∀ y∈l.map JO,Under nb nr nl y)↔True:=iff_true_intro fun y a=>by
 obtain ⟨x,_,rfl⟩:=List.mem_map.1 a
 exact .val _
@[go_sem] theorem ZkA (l:List (ByteArray)):(l.map JO).map AV.pub=l.map JO:=by
 rw [List.map_map]
 refine List.map_congr_left fun x _=>?_
 simp +decide only [Function.comp,go_sem]
def Dp (x:Vl):AV := .agg x.cs
@[go_sem] theorem HU (x:Vl):Dp x = .agg x.cs:=rfl
@[go_sem] theorem ZhJ (l:List (Vl)):(∀ y∈l.map Dp,y.cells.length=6)↔True:=iff_true_intro fun y a=>by
 obtain ⟨x,_,rfl⟩:=List.mem_map.1 a
 simp +decide only [go_sem]
@[go_sem] theorem Zlu (l:List (Vl)):(∀ y∈l.map Dp,y.cells.length=6∧Ax y=true)↔True:=iff_true_intro fun y a=>by
 obtain ⟨x,_,rfl⟩:=List.mem_map.1 a
 simp +decide only [go_sem]
@[go_sem] theorem Zhn (nb nr nl:Nat) (l:List (Vl)):(∀ y∈l.map Dp,Under nb nr nl y)↔True:=iff_true_intro fun y a=>by
 obtain ⟨x,_,rfl⟩:=List.mem_map.1 a
 exact .agg (x.under _ _ _)
@[go_sem] theorem Zj4 (l:List (Vl)):(l.map Dp).map AV.pub=l.map Dp:=by
 rw [List.map_map]
 refine List.map_congr_left fun x _=>?_
 simp +decide only [Function.comp,go_sem]
def Gx (x:Ty):AV := .agg x.cs
@[go_sem] theorem HF (x:Ty):Gx x = .agg x.cs:=rfl
@[go_sem] theorem Zhg (l:List (Ty)):(∀ y∈l.map Gx,y.cells.length=7)↔True:=iff_true_intro fun y a=>by
 obtain ⟨x,_,rfl⟩:=List.mem_map.1 a
 simp +decide only [go_sem]
@[go_sem] theorem ZkB (l:List (Ty)):(∀ y∈l.map Gx,y.cells.length=7∧Ax y=true)↔True:=iff_true_intro fun y a=>by
 obtain ⟨x,_,rfl⟩:=List.mem_map.1 a
 simp +decide only [go_sem]
@[go_sem] theorem ZhM (nb nr nl:Nat) (l:List (Ty)):(∀ y∈l.map Gx,Under nb nr nl y)↔True:=iff_true_intro fun y a=>by
 obtain ⟨x,_,rfl⟩:=List.mem_map.1 a
 exact .agg (x.under _ _ _)
@[go_sem] theorem Zkr (l:List (Ty)):(l.map Gx).map AV.pub=l.map Gx:=by
 rw [List.map_map]
 refine List.map_congr_left fun x _=>?_
 simp +decide only [Function.comp,go_sem]
def Ld (x:ByteArray × Vl):AV := .agg (.val (.string x.1)::x.2.cs)
@[go_sem] theorem HS (x:ByteArray × Vl):Ld x = .agg (.val (.string x.1)::x.2.cs):=rfl
@[go_sem] theorem Zhy (l:List (ByteArray × Vl)):(∀ y∈l.map Ld,y.cells.length=7)↔True:=iff_true_intro fun y a=>by
 obtain ⟨x,_,rfl⟩:=List.mem_map.1 a
 simp +decide only [go_sem]
@[go_sem] theorem ZkW (l:List (ByteArray × Vl)):(∀ y∈l.map Ld,y.cells.length=7∧Ax y=true)↔True:=iff_true_intro fun y a=>by
 obtain ⟨x,_,rfl⟩:=List.mem_map.1 a
 simp +decide only [go_sem]
@[go_sem] theorem Zhz (nb nr nl:Nat) (l:List (ByteArray × Vl)):(∀ y∈l.map Ld,Under nb nr nl y)↔True:=iff_true_intro fun y a=>by
 obtain ⟨x,_,rfl⟩:=List.mem_map.1 a
 exact Hv nb nr nl [x] _ (by simp [Gs,Ld])
@[go_sem] theorem Zkv (l:List (ByteArray × Vl)):(l.map Ld).map AV.pub=l.map Ld:=by
 rw [List.map_map]
 refine List.map_congr_left fun x _=>?_
 simp +decide only [Function.comp,go_sem]
def GE (x:Int × ByteArray × Int × Ty × List Vl):AV := .agg (Ak x.1 :: .val (.string x.2.1)::Ak x.2.2.1::(x.2.2.2.1.cs++[.list (x.2.2.2.2.map Dp) .none]))
@[go_sem] theorem Gf (x:Int × ByteArray × Int × Ty × List Vl):GE x = .agg (Ak x.1 :: .val (.string x.2.1)::Ak x.2.2.1::(x.2.2.2.1.cs++[.list (x.2.2.2.2.map Dp) .none])):=rfl
@[go_sem] theorem Zgz (l:List (Int × ByteArray × Int × Ty × List Vl)):(∀ y∈l.map GE,y.cells.length=11)↔True:=iff_true_intro fun y a=>by
 obtain ⟨x,_,rfl⟩:=List.mem_map.1 a
 simp +decide only [go_sem]
@[go_sem] theorem ZjR (l:List (Int × ByteArray × Int × Ty × List Vl)):(∀ y∈l.map GE,y.cells.length=11∧Ax y=true)↔True:=iff_true_intro fun y a=>by
 obtain ⟨x,_,rfl⟩:=List.mem_map.1 a
 simp +decide only [go_sem]
@[go_sem] theorem ZgC (nb nr nl:Nat) (l:List (Int × ByteArray × Int × Ty × List Vl)):(∀ y∈l.map GE,Under nb nr nl y)↔True:=iff_true_intro fun y a=>by
 obtain ⟨x,_,rfl⟩:=List.mem_map.1 a
 exact GI nb nr nl [x] _ (by simp [FZ,GE,Dw];intros;rfl)
@[go_sem] theorem Zjl (l:List (Int × ByteArray × Int × Ty × List Vl)):(l.map GE).map AV.pub=l.map GE:=by
 rw [List.map_map]
 refine List.map_congr_left fun x _=>?_
 simp +decide only [Function.comp,go_sem]
def P6 (x:Sch):AV := .agg (.val (.string x.name)::Ak x.version::x.type.cs)
@[go_sem] theorem EC (x:Sch):P6 x = .agg (.val (.string x.name)::Ak x.version::x.type.cs):=rfl
@[go_sem] theorem ZeV (l:List (Sch)):(∀ y∈l.map P6,y.cells.length=9)↔True:=iff_true_intro fun y a=>by
 obtain ⟨x,_,rfl⟩:=List.mem_map.1 a
 simp +decide only [go_sem]
@[go_sem] theorem Ziq (l:List (Sch)):(∀ y∈l.map P6,y.cells.length=9∧Ax y=true)↔True:=iff_true_intro fun y a=>by
 obtain ⟨x,_,rfl⟩:=List.mem_map.1 a
 simp +decide only [go_sem]
@[go_sem] theorem ZeF (nb nr nl:Nat) (l:List (Sch)):(∀ y∈l.map P6,Under nb nr nl y)↔True:=iff_true_intro fun y a=>by
 obtain ⟨x,_,rfl⟩:=List.mem_map.1 a
 simp only [EC,D5,List.mem_cons,forall_eq_or_imp,F4,true_and];exact x.type.under _ _ _
@[go_sem] theorem Zhd (l:List (Sch)):(l.map P6).map AV.pub=l.map P6:=by
 rw [List.map_map]
 refine List.map_congr_left fun x _=>?_
 simp +decide only [Function.comp,go_sem]
def QG (x:Itm):AV := .agg (x.v.cs++[Ak x.level])
@[go_sem] theorem Ep (x:Itm):QG x = .agg (x.v.cs++[Ak x.level]):=rfl
@[go_sem] theorem ZeC (l:List (Itm)):(∀ y∈l.map QG,y.cells.length=7)↔True:=iff_true_intro fun y a=>by
 obtain ⟨x,_,rfl⟩:=List.mem_map.1 a
 simp +decide only [go_sem]
@[go_sem] theorem Zi6 (l:List (Itm)):(∀ y∈l.map QG,y.cells.length=7∧Ax y=true)↔True:=iff_true_intro fun y a=>by
 obtain ⟨x,_,rfl⟩:=List.mem_map.1 a
 simp +decide only [go_sem]
@[go_sem] theorem Ze2 (nb nr nl:Nat) (l:List (Itm)):(∀ y∈l.map QG,Under nb nr nl y)↔True:=iff_true_intro fun y a=>by
 obtain ⟨x,_,rfl⟩:=List.mem_map.1 a
 simp only [Ep,D5,List.mem_append,List.mem_singleton];rintro z (hz | rfl);exact x.v.under _ _ _ z hz;exact .val _
@[go_sem] theorem ZhN (l:List (Itm)):(l.map QG).map AV.pub=l.map QG:=by
 rw [List.map_map]
 refine List.map_congr_left fun x _=>?_
 simp +decide only [Function.comp,go_sem]
def Xj (x:Lim):AV := .agg [.val (.string x.name),Ak x.low,Ak x.high,.val (.bool x.bounds),.val (.bool x.scale),.val (.bool x.text),.val (.bool x.list),.val (.bool x.fields)]
@[go_sem] theorem Gg (x:Lim):Xj x = .agg [.val (.string x.name),Ak x.low,Ak x.high,.val (.bool x.bounds),.val (.bool x.scale),.val (.bool x.text),.val (.bool x.list),.val (.bool x.fields)]:=rfl
@[go_sem] theorem ZfU (l:List (Lim)):(∀ y∈l.map Xj,y.cells.length=8)↔True:=iff_true_intro fun y a=>by
 obtain ⟨x,_,rfl⟩:=List.mem_map.1 a
 simp +decide only [go_sem]
@[go_sem] theorem Zku (l:List (Lim)):(∀ y∈l.map Xj,y.cells.length=8∧Ax y=true)↔True:=iff_true_intro fun y a=>by
 obtain ⟨x,_,rfl⟩:=List.mem_map.1 a
 simp +decide only [go_sem]
@[go_sem] theorem ZfS (nb nr nl:Nat) (l:List (Lim)):(∀ y∈l.map Xj,Under nb nr nl y)↔True:=iff_true_intro fun y a=>by
 obtain ⟨x,_,rfl⟩:=List.mem_map.1 a
 simp +decide only [go_sem];try intro z b;simp_all [Vl.under,Ty.under]
@[go_sem] theorem ZiD (l:List (Lim)):(l.map Xj).map AV.pub=l.map Xj:=by
 rw [List.map_map]
 refine List.map_congr_left fun x _=>?_
 simp +decide only [Function.comp,go_sem]
def Xs (x:ByteArray × Int):AV := .agg [.val (.string x.1),Ak x.2]
@[go_sem] theorem Gi (x:ByteArray × Int):Xs x = .agg [.val (.string x.1),Ak x.2]:=rfl
@[go_sem] theorem ZfC (l:List (ByteArray × Int)):(∀ y∈l.map Xs,y.cells.length=2)↔True:=iff_true_intro fun y a=>by
 obtain ⟨x,_,rfl⟩:=List.mem_map.1 a
 simp +decide only [go_sem]
@[go_sem] theorem Zka (l:List (ByteArray × Int)):(∀ y∈l.map Xs,y.cells.length=2∧Ax y=true)↔True:=iff_true_intro fun y a=>by
 obtain ⟨x,_,rfl⟩:=List.mem_map.1 a
 simp +decide only [go_sem]
@[go_sem] theorem Zf5 (nb nr nl:Nat) (l:List (ByteArray × Int)):(∀ y∈l.map Xs,Under nb nr nl y)↔True:=iff_true_intro fun y a=>by
 obtain ⟨x,_,rfl⟩:=List.mem_map.1 a
 simp +decide only [go_sem];try intro z b;simp_all [Vl.under,Ty.under]
@[go_sem] theorem ZiV (l:List (ByteArray × Int)):(l.map Xs).map AV.pub=l.map Xs:=by
 rw [List.map_map]
 refine List.map_congr_left fun x _=>?_
 simp +decide only [Function.comp,go_sem]
def XQ (x:Ty × Ty):AV := .agg (x.1.cs++x.2.cs)
@[go_sem] theorem Gh (x:Ty × Ty):XQ x = .agg (x.1.cs++x.2.cs):=rfl
@[go_sem] theorem Zg6 (l:List (Ty × Ty)):(∀ y∈l.map XQ,y.cells.length=14)↔True:=iff_true_intro fun y a=>by
 obtain ⟨x,_,rfl⟩:=List.mem_map.1 a
 simp +decide only [go_sem]
@[go_sem] theorem Zkh (l:List (Ty × Ty)):(∀ y∈l.map XQ,y.cells.length=14∧Ax y=true)↔True:=iff_true_intro fun y a=>by
 obtain ⟨x,_,rfl⟩:=List.mem_map.1 a
 simp +decide only [go_sem]
@[go_sem] theorem Zg1 (nb nr nl:Nat) (l:List (Ty × Ty)):(∀ y∈l.map XQ,Under nb nr nl y)↔True:=iff_true_intro fun y a=>by
 obtain ⟨x,_,rfl⟩:=List.mem_map.1 a
 exact .agg fun z b=>(List.mem_append.1 b).elim (x.1.under _ _ _ z) (x.2.under _ _ _ z)
@[go_sem] theorem ZiF (l:List (Ty × Ty)):(l.map XQ).map AV.pub=l.map XQ:=by
 rw [List.map_map]
 refine List.map_congr_left fun x _=>?_
 simp +decide only [Function.comp,go_sem]
def OC (x:Part):AV := .agg [Ak x.kind,Ak x.index,.val (.string x.name)]
@[go_sem] theorem F9 (x:Part):OC x = .agg [Ak x.kind,Ak x.index,.val (.string x.name)]:=rfl
@[go_sem] theorem Zgf (l:List (Part)):(∀ y∈l.map OC,y.cells.length=3)↔True:=iff_true_intro fun y a=>by
 obtain ⟨x,_,rfl⟩:=List.mem_map.1 a
 simp +decide only [go_sem]
@[go_sem] theorem Zj8 (l:List (Part)):(∀ y∈l.map OC,y.cells.length=3∧Ax y=true)↔True:=iff_true_intro fun y a=>by
 obtain ⟨x,_,rfl⟩:=List.mem_map.1 a
 simp +decide only [go_sem]
@[go_sem] theorem ZgQ (nb nr nl:Nat) (l:List (Part)):(∀ y∈l.map OC,Under nb nr nl y)↔True:=iff_true_intro fun y a=>by
 obtain ⟨x,_,rfl⟩:=List.mem_map.1 a
 simp +decide only [go_sem];try intro z b;simp_all [Vl.under,Ty.under]
@[go_sem] theorem Ziu (l:List (Part)):(l.map OC).map AV.pub=l.map OC:=by
 rw [List.map_map]
 refine List.map_congr_left fun x _=>?_
 simp +decide only [Function.comp,go_sem]
def Ir (x:Ex):AV := .agg x.cs
@[go_sem] theorem HL (x:Ex):Ir x = .agg x.cs:=rfl
@[go_sem] theorem Zhw (l:List (Ex)):(∀ y∈l.map Ir,y.cells.length=5)↔True:=iff_true_intro fun y a=>by
 obtain ⟨x,_,rfl⟩:=List.mem_map.1 a
 simp +decide only [go_sem]
@[go_sem] theorem Zk3 (l:List (Ex)):(∀ y∈l.map Ir,y.cells.length=5∧Ax y=true)↔True:=iff_true_intro fun y a=>by
 obtain ⟨x,_,rfl⟩:=List.mem_map.1 a
 simp +decide only [go_sem]
@[go_sem] theorem ZhI (nb nr nl:Nat) (l:List (Ex)):(∀ y∈l.map Ir,Under nb nr nl y)↔True:=iff_true_intro fun y a=>by
 obtain ⟨x,_,rfl⟩:=List.mem_map.1 a
 exact .agg (x.under _ _ _)
@[go_sem] theorem ZjN (l:List (Ex)):(l.map Ir).map AV.pub=l.map Ir:=by
 rw [List.map_map]
 refine List.map_congr_left fun x _=>?_
 simp +decide only [Function.comp,go_sem]
def BX (x:ByteArray × Ex):AV := .agg (.val (.string x.1)::x.2.cs)
@[go_sem] theorem Ge (x:ByteArray × Ex):BX x = .agg (.val (.string x.1)::x.2.cs):=rfl
@[go_sem] theorem Zge (l:List (ByteArray × Ex)):(∀ y∈l.map BX,y.cells.length=6)↔True:=iff_true_intro fun y a=>by
 obtain ⟨x,_,rfl⟩:=List.mem_map.1 a
 simp +decide only [go_sem]
@[go_sem] theorem Zkm (l:List (ByteArray × Ex)):(∀ y∈l.map BX,y.cells.length=6∧Ax y=true)↔True:=iff_true_intro fun y a=>by
 obtain ⟨x,_,rfl⟩:=List.mem_map.1 a
 simp +decide only [go_sem]
@[go_sem] theorem Zfz (nb nr nl:Nat) (l:List (ByteArray × Ex)):(∀ y∈l.map BX,Under nb nr nl y)↔True:=iff_true_intro fun y a=>by
 obtain ⟨x,_,rfl⟩:=List.mem_map.1 a
 exact .agg fun z b=>(List.mem_cons.1 b).elim (fun e=>e ▸ .val _) (x.2.under _ _ _ z)
@[go_sem] theorem Ziw (l:List (ByteArray × Ex)):(l.map BX).map AV.pub=l.map BX:=by
 rw [List.map_map]
 refine List.map_congr_left fun x _=>?_
 simp +decide only [Function.comp,go_sem]
def avM (x:List (ByteArray × Ex)):AV := .agg [.list (x.map BX) .none]
@[go_sem] theorem HG (x:List (ByteArray × Ex)):avM x = .agg [.list (x.map BX) .none]:=rfl
@[go_sem] theorem ZhK (l:List (List (ByteArray × Ex))):(∀ y∈l.map avM,y.cells.length=1)↔True:=iff_true_intro fun y a=>by
 obtain ⟨x,_,rfl⟩:=List.mem_map.1 a
 simp +decide only [go_sem]
@[go_sem] theorem ZkV (l:List (List (ByteArray × Ex))):(∀ y∈l.map avM,y.cells.length=1∧Ax y=true)↔True:=iff_true_intro fun y a=>by
 obtain ⟨x,_,rfl⟩:=List.mem_map.1 a
 simp +decide only [go_sem]
@[go_sem] theorem ZhP (nb nr nl:Nat) (l:List (List (ByteArray × Ex))):(∀ y∈l.map avM,Under nb nr nl y)↔True:=iff_true_intro fun y a=>by
 obtain ⟨x,_,rfl⟩:=List.mem_map.1 a
 simp +decide only [go_sem]
@[go_sem] theorem Zkz (l:List (List (ByteArray × Ex))):(l.map avM).map AV.pub=l.map avM:=by
 rw [List.map_map]
 refine List.map_congr_left fun x _=>?_
 simp +decide only [Function.comp,go_sem]
def BZ (x:Msg):AV := .agg (Ak x.stamp.1 :: .list (x.stamp.2.map C4) .none::Ak x.mass :: .list (x.origins.map C4) .none::x.body.cs)
@[go_sem] theorem Zeb (x:Msg):BZ x = .agg (Ak x.stamp.1 :: .list (x.stamp.2.map C4) .none::Ak x.mass :: .list (x.origins.map C4) .none::x.body.cs):=rfl
@[go_sem] theorem ZgN (l:List (Msg)):(∀ y∈l.map BZ,y.cells.length=10)↔True:=iff_true_intro fun y a=>by
 obtain ⟨x,_,rfl⟩:=List.mem_map.1 a
 simp +decide only [go_sem]
@[go_sem] theorem ZjQ (l:List (Msg)):(∀ y∈l.map BZ,y.cells.length=10∧Ax y=true)↔True:=iff_true_intro fun y a=>by
 obtain ⟨x,_,rfl⟩:=List.mem_map.1 a
 simp +decide only [go_sem]
@[go_sem] theorem Zg2 (nb nr nl:Nat) (l:List (Msg)):(∀ y∈l.map BZ,Under nb nr nl y)↔True:=iff_true_intro fun y a=>by
 obtain ⟨x,_,rfl⟩:=List.mem_map.1 a
 simp only [Zeb,D5,List.mem_cons,List.mem_append,List.not_mem_nil,or_false,forall_eq_or_imp,or_imp,forall_and,forall_eq,F4,true_and,and_true,Vl.under_mem0 nb nr nl,Ty.under_mem0 nb nr nl];all_goals simp +decide only [go_sem]
@[go_sem] theorem ZiP (l:List (Msg)):(l.map BZ).map AV.pub=l.map BZ:=by
 rw [List.map_map]
 refine List.map_congr_left fun x _=>?_
 simp +decide only [Function.comp,go_sem]
def B2 (x:Slt):AV := .agg (x.key.cs++[Ak x.number,Ak x.time,.list (x.items.map BZ) .none,.list (x.values.map Dp) .none])
@[go_sem] theorem ZdO (x:Slt):B2 x = .agg (x.key.cs++[Ak x.number,Ak x.time,.list (x.items.map BZ) .none,.list (x.values.map Dp) .none]):=rfl
@[go_sem] theorem ZgF (l:List (Slt)):(∀ y∈l.map B2,y.cells.length=10)↔True:=iff_true_intro fun y a=>by
 obtain ⟨x,_,rfl⟩:=List.mem_map.1 a
 simp +decide only [go_sem]
@[go_sem] theorem Zki (l:List (Slt)):(∀ y∈l.map B2,y.cells.length=10∧Ax y=true)↔True:=iff_true_intro fun y a=>by
 obtain ⟨x,_,rfl⟩:=List.mem_map.1 a
 simp +decide only [go_sem]
@[go_sem] theorem ZfA (nb nr nl:Nat) (l:List (Slt)):(∀ y∈l.map B2,Under nb nr nl y)↔True:=iff_true_intro fun y a=>by
 obtain ⟨x,_,rfl⟩:=List.mem_map.1 a
 simp only [ZdO,D5,List.mem_cons,List.mem_append,List.not_mem_nil,or_false,forall_eq_or_imp,or_imp,forall_and,forall_eq,F4,true_and,and_true,Vl.under_mem0 nb nr nl,Ty.under_mem0 nb nr nl];all_goals simp +decide only [go_sem]
@[go_sem] theorem Zjc (l:List (Slt)):(l.map B2).map AV.pub=l.map B2:=by
 rw [List.map_map]
 refine List.map_congr_left fun x _=>?_
 simp +decide only [Function.comp,go_sem]
def VN (x:Stt):AV := .agg [Ak x.number,Ak x.time,.list (x.slots.map B2) .none]
@[go_sem] theorem WM (x:Stt):VN x = .agg [Ak x.number,Ak x.time,.list (x.slots.map B2) .none]:=rfl
@[go_sem] theorem ZfG (l:List (Stt)):(∀ y∈l.map VN,y.cells.length=3)↔True:=iff_true_intro fun y a=>by
 obtain ⟨x,_,rfl⟩:=List.mem_map.1 a
 simp +decide only [go_sem]
@[go_sem] theorem ZjI (l:List (Stt)):(∀ y∈l.map VN,y.cells.length=3∧Ax y=true)↔True:=iff_true_intro fun y a=>by
 obtain ⟨x,_,rfl⟩:=List.mem_map.1 a
 simp +decide only [go_sem]
@[go_sem] theorem Zf0 (nb nr nl:Nat) (l:List (Stt)):(∀ y∈l.map VN,Under nb nr nl y)↔True:=iff_true_intro fun y a=>by
 obtain ⟨x,_,rfl⟩:=List.mem_map.1 a
 simp only [WM,D5,List.mem_cons,List.mem_append,List.not_mem_nil,or_false,forall_eq_or_imp,or_imp,forall_and,forall_eq,F4,true_and,and_true,Vl.under_mem0 nb nr nl,Ty.under_mem0 nb nr nl];all_goals simp +decide only [go_sem]
@[go_sem] theorem Zjp (l:List (Stt)):(l.map VN).map AV.pub=l.map VN:=by
 rw [List.map_map]
 refine List.map_congr_left fun x _=>?_
 simp +decide only [Function.comp,go_sem]
def Ej (x:ByteArray × List (ByteArray × Ex)):AV := .agg [.val (.string x.1),.list (x.2.map BX) .none]
@[go_sem] theorem ZdI (x:ByteArray × List (ByteArray × Ex)):Ej x = .agg [.val (.string x.1),.list (x.2.map BX) .none]:=rfl
@[go_sem] theorem ZfN (l:List (ByteArray × List (ByteArray × Ex))):(∀ y∈l.map Ej,y.cells.length=2)↔True:=iff_true_intro fun y a=>by
 obtain ⟨x,_,rfl⟩:=List.mem_map.1 a
 simp +decide only [go_sem]
@[go_sem] theorem Zkt (l:List (ByteArray × List (ByteArray × Ex))):(∀ y∈l.map Ej,y.cells.length=2∧Ax y=true)↔True:=iff_true_intro fun y a=>by
 obtain ⟨x,_,rfl⟩:=List.mem_map.1 a
 simp +decide only [go_sem]
@[go_sem] theorem Zf9 (nb nr nl:Nat) (l:List (ByteArray × List (ByteArray × Ex))):(∀ y∈l.map Ej,Under nb nr nl y)↔True:=iff_true_intro fun y a=>by
 obtain ⟨x,_,rfl⟩:=List.mem_map.1 a
 simp only [ZdI,D5,List.mem_cons,List.mem_append,List.not_mem_nil,or_false,forall_eq_or_imp,or_imp,forall_and,forall_eq,F4,true_and,and_true,Vl.under_mem0 nb nr nl,Ty.under_mem0 nb nr nl];all_goals simp +decide only [go_sem]
@[go_sem] theorem Zie (l:List (ByteArray × List (ByteArray × Ex))):(l.map Ej).map AV.pub=l.map Ej:=by
 rw [List.map_map]
 refine List.map_congr_left fun x _=>?_
 simp +decide only [Function.comp,go_sem]
def U3 (x:Nod):AV := .agg (.val (.string x.name)::Ak x.kind::Ak x.schema::Ak x.result::Ak x.number::Ak x.time::Ak x.limit :: .val (.string x.text)::(x.type.cs++[.list (x.types.map Gx) .none,.list (x.exprs.map Ir) .none,.list (x.mapping.map BX) .none,.list (x.calls.map Ej) .none,.list (x.next.map C4) .none]))
@[go_sem] theorem WL (x:Nod):U3 x = .agg (.val (.string x.name)::Ak x.kind::Ak x.schema::Ak x.result::Ak x.number::Ak x.time::Ak x.limit :: .val (.string x.text)::(x.type.cs++[.list (x.types.map Gx) .none,.list (x.exprs.map Ir) .none,.list (x.mapping.map BX) .none,.list (x.calls.map Ej) .none,.list (x.next.map C4) .none])):=rfl
@[go_sem] theorem ZfW (l:List (Nod)):(∀ y∈l.map U3,y.cells.length=20)↔True:=iff_true_intro fun y a=>by
 obtain ⟨x,_,rfl⟩:=List.mem_map.1 a
 simp +decide only [go_sem]
@[go_sem] theorem Zkc (l:List (Nod)):(∀ y∈l.map U3,y.cells.length=20∧Ax y=true)↔True:=iff_true_intro fun y a=>by
 obtain ⟨x,_,rfl⟩:=List.mem_map.1 a
 simp +decide only [go_sem]
@[go_sem] theorem ZgW (nb nr nl:Nat) (l:List (Nod)):(∀ y∈l.map U3,Under nb nr nl y)↔True:=iff_true_intro fun y a=>by
 obtain ⟨x,_,rfl⟩:=List.mem_map.1 a
 simp only [WL,D5,List.mem_cons,List.mem_append,List.not_mem_nil,or_false,forall_eq_or_imp,or_imp,forall_and,forall_eq,F4,true_and,and_true,Vl.under_mem0 nb nr nl,Ty.under_mem0 nb nr nl];all_goals simp +decide only [go_sem]
@[go_sem] theorem Zju (l:List (Nod)):(l.map U3).map AV.pub=l.map U3:=by
 rw [List.map_map]
 refine List.map_congr_left fun x _=>?_
 simp +decide only [Function.comp,go_sem]
@[go_sem] theorem ZeY (l:List (List Part)):(∀ y∈l.map (UO OC),y.cells.length=1)↔True:=iff_true_intro fun y a=>by
 obtain ⟨x,_,rfl⟩:=List.mem_map.1 a
 simp +decide only [go_sem]
@[go_sem] theorem ZiL (l:List (List Part)):(∀ y∈l.map (UO OC),y.cells.length=1∧Ax y=true)↔True:=iff_true_intro fun y a=>by
 obtain ⟨x,_,rfl⟩:=List.mem_map.1 a
 simp +decide only [go_sem]
@[go_sem] theorem Zfh (nb nr nl:Nat) (l:List (List Part)):(∀ y∈l.map (UO OC),Under nb nr nl y)↔True:=iff_true_intro fun y a=>by
 obtain ⟨x,_,rfl⟩:=List.mem_map.1 a
 simp +decide only [go_sem]
@[go_sem] theorem ZhE (l:List (List Part)):(l.map (UO OC)).map AV.pub=l.map (UO OC):=by
 rw [List.map_map]
 refine List.map_congr_left fun x _=>?_
 simp +decide only [Function.comp,go_sem]
@[go_sem] theorem ZgS (l:List (List ByteArray)):(∀ y∈l.map (UO JO),y.cells.length=1)↔True:=iff_true_intro fun y a=>by
 obtain ⟨x,_,rfl⟩:=List.mem_map.1 a
 simp +decide only [go_sem]
@[go_sem] theorem ZjY (l:List (List ByteArray)):(∀ y∈l.map (UO JO),y.cells.length=1∧Ax y=true)↔True:=iff_true_intro fun y a=>by
 obtain ⟨x,_,rfl⟩:=List.mem_map.1 a
 simp +decide only [go_sem]
@[go_sem] theorem ZfD (nb nr nl:Nat) (l:List (List ByteArray)):(∀ y∈l.map (UO JO),Under nb nr nl y)↔True:=iff_true_intro fun y a=>by
 obtain ⟨x,_,rfl⟩:=List.mem_map.1 a
 simp +decide only [go_sem]
@[go_sem] theorem Zjo (l:List (List ByteArray)):(l.map (UO JO)).map AV.pub=l.map (UO JO):=by
 rw [List.map_map]
 refine List.map_congr_left fun x _=>?_
 simp +decide only [Function.comp,go_sem]
@[go_sem] theorem ZfJ (l:List (List Int)):(∀ y∈l.map (UO C4),y.cells.length=1)↔True:=iff_true_intro fun y a=>by
 obtain ⟨x,_,rfl⟩:=List.mem_map.1 a
 simp +decide only [go_sem]
@[go_sem] theorem Zkb (l:List (List Int)):(∀ y∈l.map (UO C4),y.cells.length=1∧Ax y=true)↔True:=iff_true_intro fun y a=>by
 obtain ⟨x,_,rfl⟩:=List.mem_map.1 a
 simp +decide only [go_sem]
@[go_sem] theorem ZgL (nb nr nl:Nat) (l:List (List Int)):(∀ y∈l.map (UO C4),Under nb nr nl y)↔True:=iff_true_intro fun y a=>by
 obtain ⟨x,_,rfl⟩:=List.mem_map.1 a
 simp +decide only [go_sem]
@[go_sem] theorem ZjE (l:List (List Int)):(l.map (UO C4)).map AV.pub=l.map (UO C4):=by
 rw [List.map_map]
 refine List.map_congr_left fun x _=>?_
 simp +decide only [Function.comp,go_sem]
@[go_sem] theorem ZaM (l:List Ex):Jf l=l.map Ir:=JS l
@[go_sem] theorem Ex.under_mem (nb nr nl:Nat) (v:Ex):(∀ x∈v.cs,Under nb nr nl x)↔True:=iff_true_intro (v.under nb nr nl)
theorem Ex.cs_eqs (v:Ex):v.cs=[Ak v.op,Ak v.int,.val (.string v.text),.list (v.value.map Dp) .none,.list (v.args.map Ir) .none]:=by
 cases v;rw [Ex.cs,Dw,JS];rfl
@[go_sem] theorem Ex.cs_mks (o i:Int) (t:ByteArray) (v:List Vl) (a:List Ex):(Ex.mk o i t v a).cs=[Ak o,Ak i,.val (.string t),.list (v.map Dp) .none,.list (a.map Ir) .none]:=Ex.cs_eqs _
@[go_sem] theorem LW (l:List Vl):CZ l=l.map Dp:=Dw l
@[go_sem] theorem UK (l:List Ty):I5 l=l.map Gx:=MC l
@[go_sem] theorem T0 (l:List (ByteArray × Vl)):Gs l=l.map Ld:=JL l
@[go_sem] theorem Qw (l:List (Int × ByteArray × Int × Ty × List Vl)):FZ l=l.map GE:=by
 rw [KE]
 refine List.map_congr_left fun x _=>?_
 rw [LW];rfl
@[go_sem] theorem Zp (l:List ByteArray):(l.map fun x=>AV.val (.string x))=l.map JO:=rfl
@[go_sem] theorem Vl.under_mem (nb nr nl:Nat) (v:Vl):(∀ x∈v.cs,Under nb nr nl x)↔True:=iff_true_intro (v.under nb nr nl)
@[go_sem] theorem Ty.under_mem (nb nr nl:Nat) (v:Ty):(∀ x∈v.cs,Under nb nr nl x)↔True:=iff_true_intro (v.under nb nr nl)
@[go_sem] theorem ZeJ {α:Type} (p:α→Prop) (l m:List α):(∀ x∈l++m,p x)↔(∀ x∈l,p x)∧∀ x∈m,p x:=List.forall_mem_append
theorem rt {α:Type} {x r:α} {F G C p:Prop} (h:some x=some r) (f:F) (hcalm:C) (hO:G) (k:some x=some r→F→C→G→p:=by
  intro h hs hcalm hO
  apply Bt;simp +decide only [go_sem,Nat.reduceAdd,hs]
  have hgt:=Option.some.inj h;subst hgt
  first | refine QS hcalm rfl hO.pre (by simp +decide only [go_sem,Nat.reduceAdd]) ⟨?_,?_⟩ | refine SI hcalm rfl hO.pre (by simp +decide only [go_sem,Nat.reduceAdd]) ⟨?_,?_⟩
  all_goals first | rfl | (simp +decide only [go_sem,Nat.reduceAdd,hs];done) | (simp +decide only [go_sem,Nat.reduceAdd,Vl.cs,Ty.cs,hs];done)):p:=k h f hcalm hO
theorem hv {p F:Prop} (f:F) (h:F→p:=by intro hs;first | rfl | (simp +decide only [go_sem,Nat.reduceAdd,hs];done) | (simp +decide only [go_sem,Nat.reduceAdd,Vl.cs,Ty.cs,hs];done)):p:=h f
theorem Ty.cs_eqs (t:Ty):t.cs=[Ak t.kind,Ak t.min,Ak t.max,Ak t.scale,.list (t.words.map JO) .none,.list (t.elem.map Gx) .none,.list (t.fields.map GE) .none]:=by
 cases t;rw [Ty.cs,UK,Qw];rfl
theorem Vl.cs_eqs (v:Vl):v.cs=[Ak v.kind,Ak v.int,Ak v.scale,.val (.string v.text),.list (v.list.map Dp) .none,.list (v.fields.map Ld) .none]:=by
 rw [v.cs_eq,LW,T0]
theorem Oj (w0:World) (B:Aq) (Rw:Au) (L:Av) (hT:Lib.Utf8Tabs 1 2 w0) (s:ByteArray) (hs:s.size≤maxLen) :
  ACalls Tryz.prog w0 115 [.val (.string s)] ⟨B,Rw,L⟩ fun v s'=>v = .val (.bool (Lib.validD s.data.toList))∧s'=⟨B,Rw,L⟩:=X8 w0 _ hT s hs
theorem IR (w0:World) (B:Aq) (Rw:Au) (L:Av) (a b:ByteArray) :
  ACalls Tryz.prog w0 64 [.val (.string a),.val (.string b)] ⟨B,Rw,L⟩ fun v s'=>v=Ak (Q6 a b)∧s'=⟨B,Rw,L⟩:=Uw w0 _ a b
attribute [go_sem] Ns fillOk G6 Nat.mul_one Nat.zero_add Nat.add_zero Option.isSome_some List.getElem?_cons_zero List.getElem?_cons_succ
abbrev ALp:Prop:=(∀ (α:Type) (l m:List α),List.append l m=l++m)∧(∀ (α:Type) (a:α) (l m:List α),(a::l)++m=a::(l++m))∧∀ (α:Type) (l:List α),[]++l=l
theorem al {F:Prop} (h:F):ALp∧F:=⟨⟨fun _ _ _=>rfl,fun _ _ _ _=>rfl,fun _ _=>rfl⟩,h⟩
theorem Vl.cs_mks (k i s:Int) (t:ByteArray) (l:List Vl) (f:List (ByteArray × Vl)):(Vl.mk k i s t l f).cs=[Ak k,Ak i,Ak s,.val (.string t),.list (l.map Dp) .none,.list (f.map Ld) .none]:=Vl.cs_eqs _
theorem Ty.cs_mks (a b c d:Int) (w:List ByteArray) (e:List Ty) (f:List (Int × ByteArray × Int × Ty × List Vl)):(Ty.mk a b c d w e f).cs=[Ak a,Ak b,Ak c,Ak d,.list (w.map JO) .none,.list (e.map Gx) .none,.list (f.map GE) .none]:=Ty.cs_eqs _
theorem EF {p:Prop} (h:p:=by first | rfl | simp only [List.length_append,List.length_cons,List.length_nil,List.length_map,Nat.zero_add,Nat.add_zero]):p:=h
theorem ls_ {p:Prop} (h:p:=by simp only [List.length_set]):p:=h
theorem kr {p:Prop} (h:p:=by kernel_rfl):p:=h
theorem px {p:Prop} (h:p:=by first | exact List.prefix_append _ _ | exact List.prefix_refl _):p:=h
theorem ap_ {p:Prop} (h:p:=by simp only [List.append_assoc,List.cons_append,List.nil_append]):p:=h
theorem nq {p:Prop} (h:p:=by first | assumption | omega | (simp only [List.length_set] at *; omega)):p:=h
theorem Qm {p V:Prop} {Rw rows:List RowA} {l:List (Nat × Nat × Ev.Own)} {ho:Ev.Own} {v:List VE} (u:V) (hO:Owns Rw rows l ho v) (h:V→Rw.length≤rows.length→p:=by
  intro u hl
  (simp +decide only [go_sem,Nat.reduceAdd,Gn])<;>(try (repeat' apply Ad))<;>first | omega | assumption | exact u _ _ _ (by omega) (by omega) (by omega)):p:=h u hO.len
theorem ln {p:Prop} {Rw rows Rw' rows':List RowA} {l l':List (Nat × Nat × Ev.Own)} {ho ho':Ev.Own} {v v':List VE} (h1:Owns Rw rows l ho v) (h2:Owns Rw' rows' l' ho' v') (h:Rw.length≤rows.length→Rw'.length≤rows'.length→p:=by intro _ _;first | exact Nat.le_refl _ | omega):p:=h h1.len h2.len
theorem dl {F p q:Prop} (m c1 c2:Nat) (L:List Nat) (f:F) {P:Program} (hm:P.follows .mixedOrders=true) {A K:Env→St→Prop} (hK:∀ e s,A e s→K e s) (k:q) (h:Tg (m,c1,c2,L)→F→P.follows .mixedOrders=true→(∀ e s,A e s→K e s)→q→p:=by
  intro tt hs hm hK hq
  refine Qs tt hm (by kernel_rfl) ?_
  rw [Ao];simp +decide only [go_sem,Nat.reduceAdd,hs]
  (repeat' with_reducible apply Ad)<;>first | (rw [Ao];simp +decide only [go_sem,Nat.reduceAdd,hs]) | (clear hq;exact cl)
  first | (refine hK _ _ ?_;exact hq) | ((repeat' apply Ad)<;>first | (refine hK _ _ ?_;exact hq) | (clear hq;exact cl))):p:=h tg f hm hK k
theorem dk {F p q:Prop} (m c1 c2:Nat) (L:List Nat) (f:F) {P:Program} (hm:P.follows .mixedOrders=true) (k:q) (h:Tg (m,c1,c2,L)→F→P.follows .mixedOrders=true→q→p:=by
  intro tt hs hm hq
  refine Qs tt hm (by kernel_rfl) ?_
  rw [Ao];simp +decide only [go_sem,Nat.reduceAdd,hs]
  first | (refine Gq ?_;exact hq) | ((repeat' apply Ad)<;>first | (refine Gq ?_;exact hq) | (clear hq;exact cl))):p:=h tg f hm k
theorem dn {F p q:Prop} (f:F) {A K:Env→St→Prop} (hK:∀ e s,A e s→K e s) (k:q) (h:F→(∀ e s,A e s→K e s)→q→p:=by
  intro hs hK hq
  rw [Ao];simp +decide only [go_sem,Nat.reduceAdd,hs]
  (repeat' with_reducible apply Ad)<;>first | (rw [Ao];simp +decide only [go_sem,Nat.reduceAdd,hs]) | (clear hq;exact cl)
  first | (refine hK _ _ ?_;exact hq) | ((repeat' apply Ad)<;>first | (refine hK _ _ ?_;exact hq) | (clear hq;exact cl))):p:=h f hK k
theorem rT {α:Type} {x r:α} {F G C p:Prop} (h:x=r) (f:F) (hcalm:C) (hO:G) (k:x=r→F→C→G→p:=by
  intro h hs hcalm hO
  apply Bt;simp +decide only [go_sem,Nat.reduceAdd,hs]
  subst h
  first | refine QS hcalm rfl hO.pre (by simp +decide only [go_sem,Nat.reduceAdd]) ⟨?_,rfl⟩ | refine SI hcalm rfl hO.pre (by simp +decide only [go_sem,Nat.reduceAdd]) ⟨?_,rfl⟩
  first | rfl | (simp +decide only [go_sem,Nat.reduceAdd,hs];done) | (simp +decide only [go_sem,Nat.reduceAdd,Vl.cs,Ty.cs,hs];done)):p:=k h f hcalm hO
end Go.Proofs.YtcdnijfbfdnjlaaGreatDoor
namespace Go.Ev
open Go Go.RowKit Go.Shelf
section
variable {P:Program} {w0:World} {st:St}
def ZaR (P:Program) (t:TypeId) (size bytes:Nat):Bool :=
 match P.info? t with
 | some i=>(i.size == size)&&(i.bytes == bytes)&&(match i.zero with | some z=>z.cells.size == size | none=>false)
 | none=>false
theorem VM {t:TypeId} {size bytes:Nat} (h:ZaR P t size bytes=true):∃ i0 z,P.info? t=some i0∧i0.zero=some z∧i0.size=size∧i0.bytes=bytes∧z.cells.size=size:=by
 unfold ZaR at h
 cases hi:P.info? t with
 | none=>simp [hi] at h
 | some i =>
  simp only [hi,Bool.and_eq_true,beq_iff_eq] at h
  cases hz:i.zero with
  | none=>simp [hz] at h
  | some z =>
   simp only [hz,beq_iff_eq] at h
   exact ⟨i,z,rfl,hz,h.1.1,h.1.2,h.2⟩
end
def JB (n:Nat) (rows:Au):Own:=if n=0 then .full else .row rows.length
def Md (n sz:Nat) (rows:Au):List RowA:=if n=0 then rows else rows++[.grow n sz]
theorem Owns.len1 {Rw rows:List RowA} {o ho:Own} {sz n m:Nat} (h:Owns Rw rows [(sz,n,o)] ho) (e:n=m):Owns Rw rows [(sz,m,o)] ho:=e▸h
section
variable {P:Program} {w0:World} {st:St} {M:Mem} {w:World}
theorem RelSt.adoptRow (h:RelSt w0 M st w) {w':World} (hb:Below w.heap.size w w') {g cap k sz:Nat} {cs:Array Value} {ty:TypeId} (hg:w.heap.size≤g) (hcs:w'.heap[g]? = some (.cells cs ty (0,0))) (hm:cap≤maxLen) (hk:k≤cap) (hs:cs.size=cap*sz) :
  RelSt w0 (M.addRow g cap k sz (k*sz)) { st with rows:=st.rows++[.grow k sz] } w'∧Ext w0 M w (M.addRow g cap k sz (k*sz)) w':=by
 have K:g<w'.heap.size:=(Array.getElem?_eq_some_iff.1 hcs).1
 have f:∀ b,b<w.heap.size→(M.addRow g cap k sz (k*sz)).top b=M.top b:=fun b hb=>by simp [Mem.addRow];omega
 have t:∀ x,x<w.heap.size→w'.heap[x]? = w.heap[x]? := hb.block
 have s:KeepsObj w w':=fun x o m _=>(t x (Array.getElem?_eq_some_iff.1 m).1).trans m
 have a:∀ i,i<M.NR→(M.addRow g cap k sz (k*sz)).fr i=M.fr i∧(M.addRow g cap k sz (k*sz)).blk i=M.blk i∧(M.addRow g cap k sz (k*sz)).cap i=M.cap i∧(M.addRow g cap k sz (k*sz)).rsz i=M.rsz i:=by
  intro i n
  have:¬ i=M.NR:=by omega
  simp [Mem.addRow,this]
 have C:Ext w0 M w (M.addRow g cap k sz (k*sz)) w' :=
  ⟨Nat.le_refl _,fun _ _=>rfl,Nat.le_succ _,fun i n=>by obtain ⟨a1,a2,a3,a4⟩:=a i n;exact ⟨by omega,fun _=>⟨a2,a3,a4⟩⟩,fun x U v n D=>by
   have d:=World.block_lt_of_cell? w _ D
   refine ⟨?_,n.imp id fun q=>by rw [f x d];exact q⟩
   unfold World.cell? at D ⊢
   simp only [t x d] at D ⊢
   exact D,hb.size,Nat.le_refl _,fun _ _=>rfl,fun _ m r=>absurd r (Nat.not_lt.2 m),fun x o m r _=>s x o m r,fun b q1 q=>⟨t b q1,⟨q.1,fun i n=>by
    by_cases c:i=M.NR
    ·subst c;simp only [Mem.addRow,if_true];omega
    ·have u:i<M.NR:=by simp only [Mem.addRow] at n;omega
     rw [(a i u).2.1];exact q.2.1 i u,q.2.2⟩,f b q1⟩⟩
 have G:∀ l,l<M.N→M.bx l≠g:=fun l E=>by have:=h.box_lt E;omega
 refine ⟨⟨h.below.trans (hb.mono h.base_le),h.N,by simp [Mem.addRow,h.NR],fun b Q=>?_,h.inj,fun l c E=>?_,fun id y hid=>?_,fun i j n Y e=>?_,h.loop.mono C rfl s⟩,C⟩
 ·have:=hb.size
  have:(M.addRow g cap k sz (k*sz)).top b=M.top b:=by simp [Mem.addRow];omega
  rw [this]
  exact h.top b (by omega)
 ·obtain ⟨a1,a2,Z,F,a3,a4,a5,a6⟩:=h.box l c E
  have d:=(Array.getElem?_eq_some_iff.1 a3).1
  exact ⟨a1,by rw [show (M.addRow g cap k sz (k*sz)).bx l=M.bx l from rfl,f _ d];exact a2,Z,F,by rw [show (M.addRow g cap k sz (k*sz)).bx l=M.bx l from rfl,t _ d];exact a3,a4,a5,fun i m r=>(a6 i m r).mono C⟩
 ·by_cases e1:id=M.NR
  ·subst e1
   simp only [h.NR,List.getElem?_concat_length,Option.some.injEq] at hid
   subst hid
   have q:(M.addRow g cap k sz (k*sz)).fr M.NR=k∧(M.addRow g cap k sz (k*sz)).blk M.NR=g∧(M.addRow g cap k sz (k*sz)).cap M.NR=cap∧(M.addRow g cap k sz (k*sz)).rsz M.NR=sz∧(M.addRow g cap k sz (k*sz)).top g=k*sz:=by simp [Mem.addRow]
   obtain ⟨q1,q2,q3,q4,J⟩:=q
   simp only [RowOk,q1,q2,q3,q4,J]
   have O:=h.base_le
   exact ⟨trivial,trivial,by omega,trivial,G,hm,hk,cs,ty,hcs,hs⟩
  ·have p:id<M.NR:=by
    have:id<(st.rows++[RowA.grow k sz]).length:=(Aj.1 hid).1
    have H:=h.NR
    simp at this
    omega
   rw [List.getElem?_append_left (by rw [←h.NR];exact p)] at hid
   have hk:=h.row id y hid
   obtain ⟨o1,o2,o3,V⟩:=a id p
   exact hk.keep C o1 V o2 o3 (f _ hk.lt) hk.ne (t _ hk.lt)
 ·have H:(M.addRow g cap k sz (k*sz)).NR=M.NR+1:=rfl
  rw [H] at n Y
  have z:(M.addRow g cap k sz (k*sz)).blk M.NR=g:=by simp [Mem.addRow]
  by_cases e1:i=M.NR
  ·by_cases e2:j=M.NR
   ·omega
   ·subst e1
    rw [z,(a j (by omega)).2.1] at e
    have:=h.row_lt (i:=j) (by omega)
    omega
  ·by_cases e2:j=M.NR
   ·subst e2
    rw [z,(a i (by omega)).2.1] at e
    have:=h.row_lt (i:=i) (by omega)
    omega
   ·rw [(a i (by omega)).2.1,(a j (by omega)).2.1] at e
    exact h.rowinj i j (by omega) (by omega) e
theorem own_row {w':World} {e:TypeId} {sz:Nat} {v':Value} {n:Nat} {us:Nat→Value} {xs:List AV} (hst:RelSt w0 M st w) (hb:Below w.heap.size w w') (ho:w'.ownsRow w.heap.size e sz v' n (flat us n)) (hn:xs.length=n) (h0:n≠0)
  (hus:∀ i,i<n→(us i).cells.size=sz) (hR:∀ i (hi:i<xs.length),R w0 M w (us i) xs[i]):∃ M',Ext w0 M w M' w'∧RelSt w0 M' { st with rows:=st.rows++[.grow n sz] } w'∧R w0 M' w' v' (.list xs (.row st.rows.length)):=by
 subst hn
 obtain ⟨l,k⟩:=ho
 rcases k with ⟨rfl,h0'⟩ | ⟨g,cap,cur,rfl,hg,hcur,hc1,hc2,hc3,hc4⟩
 ·exact absurd h0' h0
 ·obtain ⟨d,c⟩:=hst.adoptRow hb hg hcur hc2 hc1 hc3
  have b:=hst.NR
  refine ⟨_,c,d,.list sz us hc1 hc2 (fun i hi=>⟨hus i hi,fun j f=>?_⟩) (fun i hi=>(hR i hi).mono c) ⟨by simp [Mem.addRow,b],by simp [Mem.addRow,b],fun _=>by simp [Mem.addRow,b]⟩⟩
  have a:i*sz+j<xs.length*sz:=by
   have:(i+1)*sz≤xs.length*sz:=Nat.mul_le_mul_right _ hi
   rw [Nat.succ_mul] at this;omega
  refine ⟨.inr (by simp only [Mem.addRow,if_true,Nat.zero_add];exact a),?_⟩
  have h:=Gt hus i hi j f
  rw [←h,←hc4,List.getElem?_take_of_lt a,Array.getElem?_toList]
  simp [World.cell?,hcur]
theorem Vt {ρ:Ren} (L:Go.Proofs.SlLaysE0.n41 P ρ) (i0:TypeInfo) (size:Nat) (hi:P.info? (ρ.t 23)=some i0) (hz1:i0.size=size) (z23:∀ w,(Go.sizeOf (ρ.t 23)).run P w = .ok size w) (a:Addr) (c:Nat) (w:World) :
  Calls P (ρ.f 41) #[.slice (some a) 0 c] w fun e w'=>∃ b,e = .returned (.slice (some b) 0 0)∧Below w.heap.size w w':=by
 have mixed:=L.mixed;have t4:=L.t4;have a4:=L.a4;have z4:=L.z4;have v4:=L.v4;have t22:=L.t22;have a22:=L.a22;have z22:=L.z22;have v22:=L.v22
 have q22:∀ (w:World) (a:Option Addr) (n c n' c':Nat),(binOp .eql (ρ.t 22) (.slice a n c) (.slice none n' c')).run P w = .ok (.bool a.isNone) w:=fun w a n c n' c'=>Lib.run_eql_slice_nil w _ _ a n c n' c' L.t22
 have u22:∀ w,Sem.run P (underlying (ρ.t 22)) w = .ok (TypeDesc.slice (ρ.t 23)) w:=run_underlying t22
 have hgo:∀ (w:World) (ty:TypeId) (ad:Addr),(Builtin.append_ #[ρ.t 22,ρ.t 22] ty #[.slice (some ad) 0 0,.slice (some a) 0 c]).run P w = .ok (.slice (some ad) 0 0) w:=fun w ty ad=>by
  simp [Builtin.append_,run_underlying t22,sizeOf,typeInfo,hi,hz1,storeCells,Builtin.lenOf,Builtin.firstCells,loadCells,loadCellsFrom]
 obtain ⟨_,_,FG⟩:=L.f41
 go_enter FG,Go.Proofs.SlBodyN.n41_ntmps ρ
 go_wp2_with (at_builtin;refine Lib.wpList_append_run _ rfl _ _ (ρ.t 22) (ρ.t 22) rfl _ _ rfl rfl _ _ (hgo _ _ _) ?_)
 go_wp2
 go_ret
 exact ⟨_,rfl,(Below.refl _ w).alloc (Nat.le_refl _) _⟩
theorem MY {ρ:Ren} (L:Go.Proofs.SlLaysE0.n41 P ρ) (hen:IU P (ρ.f 41)) (size bytes:Nat) (hinf:ZaR P (ρ.t 23) size bytes=true) (hsz:0<size) (z23:∀ w,(Go.sizeOf (ρ.t 23)).run P w = .ok size w) {xs:List AV} {o:Own}
  (hx:∀ y∈xs,y.cells.length=size∧Ax y=true) (hbig:xs.length*bytes≤140737488355328) :
  ACalls P w0 (ρ.f 41) [.list xs o] st fun r s=>r = .list xs (JB xs.length st.rows)∧s={ st with rows:=Md xs.length size st.rows }:=by
 obtain ⟨i0,z,n,O,F,Q,V⟩:=VM hinf
 refine ⟨hen,fun M w G x m=>?_⟩
 obtain ⟨v,rfl⟩:∃ v,G = #[v]:=by
  have:=m.1
  simp only [List.length_cons,List.length_nil] at this
  exact Array.size_eq_one_iff.1 this
 have hv:R w0 M w v (.list xs o):=m.2 0 (by simp) (by simp)
 have l:∀ (a:Addr) (c:Nat),xs=[]→Calls P (ρ.f 41) #[.slice (some a) 0 c] w fun en D=>∃ v M' r st',en = .returned v∧(r = .list xs (JB xs.length st.rows)∧st'={ st with rows:=Md xs.length size st.rows })∧Ext w0 M w M' D∧RelSt w0 M' st' D∧R w0 M' D v r:=fun a c hxs=>by
  subst hxs
  refine (Vt L i0 size n F z23 a c w).mono ?_
  rintro en D ⟨b,rfl,d⟩
  obtain ⟨r1,r2⟩:=x.later d w.heap.size 0 (Nat.le_refl _) (.inr rfl)
  exact ⟨_,_,_,st,rfl,⟨rfl,rfl⟩,r2,r1,.emp (fun id=>by simp [JB])⟩
 cases hv with
 | nil ho =>
  refine (Go.Proofs.AnyE.slices_Clone_nil L 0 0 w).mono ?_
  rintro en D ⟨rfl,rfl⟩
  exact ⟨_,M,_,st,rfl,⟨rfl,rfl⟩,.refl _ _ _,x,.nil (fun id=>by simp [JB])⟩
 | @emp ad _ ho=>exact l ad 0 rfl
 | @list b off cap _ _ sz us hc hm hcell hu ho =>
  by_cases h0:xs=[]
  ·have:=l ⟨b,off,none⟩ cap h0
   rw [h0]
   rw [h0] at this
   exact this
  have C:xs.length≠0:=fun q=>h0 (List.length_eq_zero_iff.1 q)
  have h:∀ i,i<xs.length→(us i).cells.size=size:=fun i n=>by
   rw [((hu i n).cells).1];exact (hx _ (List.getElem_mem _)).1
  have g:∀ i,i<xs.length→∀ j,j<size→w.cell? ⟨b,off+i*size+j,none⟩=(us i).cells[j]? := fun i n j Z=>by
   have e:sz=size:=((hcell i n).1).symm.trans (h i n)
   subst e
   exact ((hcell i n).2 j Z).2
  refine (Go.Proofs.AnyE.slices_Clone L i0 z size bytes n O F Q V hsz z23 b off xs.length cap (flat us xs.length) w (AK h) (Nat.le_trans hc hm) hbig (fun j u Z=>?_) (fun u U=>?_)).mono ?_
  ·have:=EP h hsz g j u Z
   rwa [Dt] at this
  ·obtain ⟨i,Y,N⟩:=List.mem_flatMap.1 U
   have p:i<xs.length:=by simpa using Y
   obtain ⟨k,hk,rfl⟩:=List.mem_iff_getElem.1 N
   have E:=(hu i p).cells
   have J:k<(us i).cells.size:=by simpa using hk
   have:=E.2 k J (by rw [←E.1];exact J)
   rw [Array.getElem_toList]
   refine this.oneCell ((hu i p).cellsOne (fun vs K=>?_) _ (List.getElem_mem _))
   have:=(hx _ (List.getElem_mem p)).2
   rw [K] at this;cases this
  ·rintro en D ⟨v',rfl,H,_,d⟩
   obtain ⟨M',x1,x2,x3⟩:=own_row x d H rfl C h hu
   refine ⟨v',M',_,_,rfl,⟨rfl,rfl⟩,x1,?_,?_⟩
   ·rw [Md,Ai C];exact x2
   ·rw [JB,Ai C];exact x3
end
end Go.Ev
namespace Go.Proofs.YtcdnijfbfdnjlaaGreatDoor
open Go Go.RowKit Go.Ev
def Im:Go.Shelf.Ren:=⟨fun | 41=>88 | n=>n,fun | 22=>32 | 23=>3 | 4=>4 | n=>n,fun | n=>n⟩
theorem Ln:Go.Proofs.SlLaysE0.n41 Tryz.prog Im:={
 mixed:=by kernel_rfl
 f41:=⟨Tryz.f88.name,by decide,Tryz.func88.trans (congrArg some (by kernel_rfl))⟩
 t4:=Tryz.underlying4
 a4:=Tryz.isAgg4
 z4:=Tryz.sizeOf4
 v4:=Tryz.zeroValue4
 t22:=Tryz.underlying32
 a22:=Tryz.isAgg32
 z22:=Tryz.sizeOf32
 v22:=Tryz.zeroValue32 }
theorem LZ (w0:World) (B:Aq) (Rw:Au) (L:Av) (l:List Int) (h:l.length*8≤140737488355328) :
  ACalls Tryz.prog w0 88 [.list (l.map C4) .none] ⟨B,Rw,L⟩ fun r s=>r = .list (l.map C4) (JB l.length Rw)∧s=⟨B,Md l.length 1 Rw,L⟩:=by
 have:=MY (P:=Tryz.prog) (w0:=w0) (st:=⟨B,Rw,L⟩) (o := .none) (xs:=l.map C4) (ρ:=Im) Ln (A0 Tryz.func88 rfl (by decide)) 1 8 (by kernel_rfl) (by decide) Tryz.sizeOf3 (by simp +decide only [go_sem]) (by rw [List.length_map];exact h)
 rw [List.length_map] at this
 exact this
def He:Go.Shelf.Ren:=⟨fun | 41=>92 | n=>n,fun | 22=>46 | 23=>49 | 4=>4 | n=>n,fun | n=>n⟩
theorem J2:Go.Proofs.SlLaysE0.n41 Tryz.prog He:={
 mixed:=by kernel_rfl
 f41:=⟨Tryz.f92.name,by decide,Tryz.func92.trans (congrArg some (by kernel_rfl))⟩
 t4:=Tryz.underlying4
 a4:=Tryz.isAgg4
 z4:=Tryz.sizeOf4
 v4:=Tryz.zeroValue4
 t22:=Tryz.underlying46
 a22:=Tryz.isAgg46
 z22:=Tryz.sizeOf46
 v22:=Tryz.zeroValue46 }
theorem Ku (w0:World) (B:Aq) (Rw:Au) (L:Av) (l:List Vl) (h:l.length*88≤140737488355328) :
  ACalls Tryz.prog w0 92 [.list (l.map Dp) .none] ⟨B,Rw,L⟩ fun r s=>r = .list (l.map Dp) (JB l.length Rw)∧s=⟨B,Md l.length 6 Rw,L⟩:=by
 have:=MY (P:=Tryz.prog) (w0:=w0) (st:=⟨B,Rw,L⟩) (o := .none) (xs:=l.map Dp) (ρ:=He) J2 (A0 Tryz.func92 rfl (by decide)) 6 88 (by kernel_rfl) (by decide) Tryz.sizeOf49 (by simp +decide only [go_sem]) (by rw [List.length_map];exact h)
 rw [List.length_map] at this
 exact this
def GF:Go.Shelf.Ren:=⟨fun | 41=>349 | n=>n,fun | 22=>22 | 23=>9 | 4=>4 | n=>n,fun | n=>n⟩
theorem JH:Go.Proofs.SlLaysE0.n41 Tryz.prog GF:={
 mixed:=by kernel_rfl
 f41:=⟨Tryz.f349.name,by decide,Tryz.func349.trans (congrArg some (by kernel_rfl))⟩
 t4:=Tryz.underlying4
 a4:=Tryz.isAgg4
 z4:=Tryz.sizeOf4
 v4:=Tryz.zeroValue4
 t22:=Tryz.underlying22
 a22:=Tryz.isAgg22
 z22:=Tryz.sizeOf22
 v22:=Tryz.zeroValue22 }
theorem J1 (w0:World) (B:Aq) (Rw:Au) (L:Av) (l:List ByteArray) (h:l.length*16≤140737488355328) :
  ACalls Tryz.prog w0 349 [.list (l.map JO) .none] ⟨B,Rw,L⟩ fun r s=>r = .list (l.map JO) (JB l.length Rw)∧s=⟨B,Md l.length 1 Rw,L⟩:=by
 have:=MY (P:=Tryz.prog) (w0:=w0) (st:=⟨B,Rw,L⟩) (o := .none) (xs:=l.map JO) (ρ:=GF) JH (A0 Tryz.func349 rfl (by decide)) 1 16 (by kernel_rfl) (by decide) Tryz.sizeOf9 (by simp +decide only [go_sem]) (by rw [List.length_map];exact h)
 rw [List.length_map] at this
 exact this
end Go.Proofs.YtcdnijfbfdnjlaaGreatDoor
namespace Go.Ev
open Go Go.RowKit Go.Shelf Go.Sort Go.Proofs
theorem Wh {α β:Type} {f:α→List β} {sz:Nat}:∀ {xs:List α},(∀ x∈xs,(f x).length=sz)→(xs.flatMap f).length=xs.length*sz
 | [],_=>by simp
 | x::xs,h=>by
  rw [List.flatMap_cons,List.length_append,h x (List.mem_cons_self ..),Wh (fun y a=>h y (List.mem_cons_of_mem _ a)),List.length_cons,Nat.succ_mul,Nat.add_comm]
abbrev cbL:List UInt8→List UInt8→Int:=Lib.compareBytes
theorem Wm:∀ a,cbL a a=0
 | []=>rfl
 | x::a=>by simp only [cbL,Lib.compareBytes,UInt8.lt_irrefl,if_false];exact Wm a
structure VOne (Rw rows:Au) (sz:Nat) (xs:List AV) (x:AV):Prop where
 pre:Rw <+: rows
 calm:∀ r∈rows.drop Rw.length,∀ y∈r.cells,∀ a b c,Under a b c y
 at_:(xs=[]∧x = .list [] .seed)∨∃ id ver,x = .vec id ver 0 xs.length∧0<xs.length∧Rw.length≤id∧rows[id]? = some (.vec ver sz (xs.flatMap AV.cells))
theorem VOne.none (Rw:Au) (sz:Nat):VOne Rw Rw sz [] (.list [] .seed):=⟨List.prefix_refl _,by simp,.inl ⟨rfl,rfl⟩⟩
theorem VOne.of_eq {Rw rows:List RowA} {sz:Nat} {xs ys:List AV} {x:AV} (h:VOne Rw rows sz xs x) (he:xs=ys):VOne Rw rows sz ys x:=he▸h
theorem VOne.len {Rw rows:List RowA} {sz:Nat} {xs:List AV} {x:AV} (h:VOne Rw rows sz xs x):Rw.length≤rows.length:=h.pre.length_le
theorem VOne.under {Rw rows:List RowA} {sz:Nat} {xs:List AV} {x:AV} (h:VOne Rw rows sz xs x) (nb nl:Nat):Under nb rows.length nl x:=by
 rcases h.at_ with ⟨_,rfl⟩ | ⟨id,ver,rfl,_,_,h3⟩
 ·exact .list (by simp) trivial
 ·exact .vec (Aj.1 h3).1
theorem VOne.cell {Rw rows:List RowA} {sz:Nat} {xs:List AV} {x:AV} (h:VOne Rw rows sz xs x):x.cells=[x]∧Ax x=true∧x.pubCell.pubCell=x.pubCell:=by
 rcases h.at_ with ⟨_,rfl⟩ | ⟨id,ver,rfl,_,_,h3⟩<;>exact ⟨rfl,rfl,rfl⟩
theorem VOne.append {P:Program} {t el:TypeId} {sz by8:Nat} {ag:Bool} {Rw rows:List RowA} {xs:List AV} {x y:AV} (h:VOne Rw rows sz xs x) (he:FB P t=some (el,sz,ag,by8)) (hz:(AO P el).isSome=true) (hs:0<sz)
  (hb:(xs.length+1)*by8≤140737488355328) (hb2:xs.length+1≤4611686018427387904) (hy:y.cells.length=sz∧Ax y=true) (hp:y.pub=y) (hu:∀ c∈y.cells,∀ a b d,Under a b d c) (hxs:∀ z∈xs,z.cells.length=sz) :
  ∃ x' rows',VOne Rw rows' sz (xs++[y]) x'∧∀ (B:Aq) (L:Av) (o2:Own),evAppend P ⟨B,rows,L⟩ t x (.list [y] o2)=(True,x',⟨B,rows',L⟩):=by
 have g:=h.len
 have i:appendOb P el sz by8 xs.length [y]=True:=by
  simp only [appendOb,hs,hz,List.length_singleton,hb,hb2,true_and,List.mem_singleton,forall_eq,hy,and_self]
 rcases h.at_ with ⟨rfl,rfl⟩ | ⟨id,ver,rfl,h1,h2,h3⟩
 ·refine ⟨.vec rows.length 0 0 1,rows++[.vec 0 sz y.cells],⟨h.pre.trans (List.prefix_append _ _),fun r hr z hz' a b c=>?_,.inr ⟨rows.length,0,rfl,by simp,g,by simp⟩⟩,fun B L o2=>?_⟩
  ·rw [List.drop_append_of_le_length g] at hr
   rcases List.mem_append.1 hr with hr | hr
   ·exact h.calm r hr z hz' a b c
   ·simp only [List.mem_singleton] at hr;subst hr;exact hu z hz' a b c
  ·simp only [evAppend,he,AG,Bi,List.length_singleton,List.length_nil,List.flatMap_cons,List.flatMap_nil,List.append_nil,hp]
   rw [show appendOb P el sz by8 0 [y]=True from i]
   simp
 ·have f:=(Aj.1 h3).1
  have e:(xs.flatMap AV.cells).length=xs.length*sz:=Wh hxs
  refine ⟨.vec id (ver+1) 0 (xs.length+1),rows.set id (.vec (ver+1) sz (xs.flatMap AV.cells++y.cells)),⟨RL h.pre h2 _,fun r hr z hz' a b c=>?_,.inr ⟨id,ver+1,by rw [List.length_append];rfl,by simp,h2,by simp [f,List.flatMap_append]⟩⟩,fun B L o2=>?_⟩
  ·rw [List.drop_set,Aa] at hr
   rcases List.mem_or_eq_of_mem_set hr with hr | rfl
   ·exact h.calm r hr z hz' a b c
   ·rcases List.mem_append.1 hz' with q | q
    ·exact h.calm (.vec ver sz (xs.flatMap AV.cells)) (by
      rw [List.mem_iff_getElem?]
      exact ⟨id-Rw.length,by rw [List.getElem?_drop,Nat.add_sub_cancel' h2];exact h3⟩) z q a b c
    ·exact hu z q a b c
  ·simp only [evAppend,he,AG,Bi,List.length_singleton,List.flatMap_cons,List.flatMap_nil,List.append_nil,hp,B1,h3,if_true]
   rw [i]
   simp only [e,true_and,Nat.le_refl,and_self,Prod.mk.injEq,true_and,List.take_of_length_le (Nat.le_of_eq e)]
end Go.Ev
namespace Go.Proofs.YtcdnijfbfdnjlaaGreatDoor
open Go Go.RowKit Go.Ev Go.Shelf Go.Sort Go.Lib
def JJ:String:=(Rows.sagaChecksRow.laid.map (·.1)).getD 2 default
abbrev Pow10 (w:World):Prop:=Lib.TabIs Tryz.prog w JJ .u64 Lib.pow10Tab
theorem Pow10.below {w0 w:World} (h:Pow10 w0) (hb:Below w0.heap.size w0 w):Pow10 w:=by
 unfold Pow10 Lib.TabIs World.var? at *
 cases hg:Tryz.prog.globalNamed JJ with
 | none=>rw [hg] at h;cases h
 | some g =>
  rw [hg] at h
  simp only [Ae] at h ⊢
  cases hx:w0.heap[g]? with
  | none=>rw [hx] at h;cases h
  | some o =>
   rw [hb.block g (Array.getElem?_eq_some_iff.1 hx).1]
   exact h
theorem N1 (u:Nat):Lib.nDigits u≤u / 10+1:=by
 induction u using Nat.strongRecOn with
 | _ u ih =>
  by_cases h:u<10
  ·rw [Lib.nDigits_small h];omega
  ·rw [Lib.nDigits_big h]
   have:=ih (u / 10) (by omega)
   omega
theorem Xf (n:Int) (h : -9223372036854775808≤n∧n≤9223372036854775807):(Lib.itoa n).length≤maxLen:=by
 unfold Lib.itoa maxLen
 split
 ·rw [List.length_cons,Lib.decDigits_length];have:=N1 n.natAbs;omega
 ·rw [Lib.decDigits_length];have:=N1 n.toNat;omega
theorem YY (w0:World) (B:Aq) (Rw:Au) (L:Av) (hP:Pow10 w0) (n:Int) (hn : -9223372036854775808≤n∧n≤9223372036854775807) :
  ACalls Tryz.prog w0 86 [Ak n] ⟨B,Rw,L⟩ fun v s'=>v = .val (.string ⟨(Lib.itoa n).toArray⟩)∧s'=⟨B,Rw,L⟩ :=
 EL (A0 Tryz.func86 rfl (by decide)) (by
  show decide ((Lib.itoa n).toArray.size≤maxLen)=true
  rw [List.size_toArray]
  exact Ag (Xf n hn)) fun M w c d a=>by
  have:=H9 (us:=[.int .i64 n]) a
  subst this
  refine (Any.strconv_Itoa Tryz.laysM171 n hn.1 hn.2 w (hP.below d)).mono ?_
  rintro e g ⟨rfl,k,b,rfl⟩
  refine ⟨rfl,rfl,rfl,rfl,by simp [grow],fun i f=>?_⟩
  show (grow (w.drewN k) b).heap[i]? = w.heap[i]?
  rw [heap_grow_old (w.drewN k) b f]
  rfl
end Go.Proofs.YtcdnijfbfdnjlaaGreatDoor
namespace Go.Proofs.YtcdnijfbfdnjlaaGreatDoor
open Go Go.RowKit Go.Ev
theorem tgh {α β:Type} {a:α} {b:β} (h:Tg (a,b)):Tg a:=trivial
theorem tgt {α β:Type} {a:α} {b:β} (h:Tg (a,b)):Tg b:=trivial
theorem bI2 {α β:Type} {o:Option α} {x:α} {f:α→Option β} {r:β} {p:Prop} (hx:o=some x) (k:f x=some r→p):o.bind f=some r→p:=fun h=>by
 rw [hx] at h
 exact k h
theorem bI {α β:Type} {o:Option α} {f:α→Option β} {r:β} {p:Prop} (k:∀ y,o=some y→f y=some r→p):o.bind f=some r→p:=fun h=>by
 obtain ⟨y,a,b⟩:=bind_some h
 exact k y a b
theorem gI {β:Type} {c:Prop} [Decidable c] {x:Option β} {r:β} {p:Prop} (k:c→x=some r→p):(if c then x else none)=some r→p:=fun h=>by
 obtain ⟨a,b⟩:=An h
 exact k a b
theorem xI {α β:Type} {l:List α} {i:Int} {F:α→Option β} {r:β} {A p:Prop} (a:A) (k:∀ x,0≤i→i<l.length→((∀ g:α→AV,(l.map g).getD i.toNat .junk=g x)∧(∀ (g:α→AV) (j:Nat),i=(j:Int)→(l.map g).getD j .junk=g x)∧A)→F x=some r→p):(GM l i).bind F=some r→p:=fun h=>by
 obtain ⟨x,d,h⟩:=bind_some h
 obtain ⟨a1,b,c⟩:=EZ d
 exact k x a1 b ⟨fun g=>EX c,fun g j e=>by rw [show j=i.toNat by omega];exact EX c,a⟩ h
section
variable {P:Program} {w0:World} {n:Nat} {M0:Mem} {W0:World} {ro:Option Nat} {e:Env} {st:St} {Q:AQ}
theorem cI {α β' β:Type} {ta:α} {tb:β'} {F:Prop} {b:Bool} {X Y r:β} (f:F) {c:Operand} {x y:Code} (ht:Tg ta→(b=true∧F)→X=r→CX P w0 n M0 W0 ro x Q e st) (hf:Tg tb→(b=false∧F)→Y=r→CX P w0 n M0 W0 ro y Q e st)
  (hc:argOk e true c) (hb:Ap e c = .val (.bool b)):(if b=true then X else Y)=r→Tg (ta,tb)→CX P w0 n M0 W0 ro (.cond c x y) Q e st :=
 fun h _=>GB h f (ht trivial) (hf trivial) hc (fun _=>hb)
theorem cT {c:Operand} {x y:Code} (c1:argOk e true c) (c2:Ap e c = .val (.bool true)) (c3:CX P w0 n M0 W0 ro x Q e st):CX P w0 n M0 W0 ro (.cond c x y) Q e st:=BF true c1 c2 (fun _=>c3) (fun q=>Bool.noConfusion q)
theorem cF {c:Operand} {x y:Code} (c1:argOk e true c) (c2:Ap e c = .val (.bool false)) (c3:CX P w0 n M0 W0 ro y Q e st):CX P w0 n M0 W0 ro (.cond c x y) Q e st:=BF false c1 c2 (fun q=>Bool.noConfusion q) (fun _=>c3)
theorem callG {f:FuncId} {c d:Bool} {cs args args':List AV} {k:AV→St→Prop} {v:AV}
  (hA:ACalls P w0 f args' st fun r s=>r=v∧s=st) (hE:(args++cs).map AV.pubA=args') (hk:k v st):Hw P w0 c d (.clo f cs) args st k:=Az v hA hE hk
theorem evI {c:Nat} {d:Bool} {all os:List Oper} {K:Env→St→Prop} (h:UM P w0 n d all (KJ P w0 n d all K c) K os e st):KJ P w0 n d all K (c+1) os e st:=h
theorem Zjy {m:Nat} {L:List Nat} (t:Tg (m::L)) (hm:P.follows .mixedOrders=true) {id:Nat} {l:List Oper}
  (hev:KJ P w0 n true l (fun e1 s1=>KJ P w0 n false l (fun e2 s2=>Q .normal (Do L e2) s2) 9 (l.drop m) e1 s1) 9 (l.take m) e st) (hB:Jr l m=true:=by kernel_rfl):CX P w0 n M0 W0 ro (.region id l.toArray true) Q e st:=Uj hm m 9 9 L hB hev
theorem te {B0 B bs X:List (List AV)} {Rw rows:List RowA} {L:List LoopA} {l:List (Nat × Nat × Ev.Own)} {c:Code} (hq:M0.N=B0.length∧M0.NR=Rw.length∧M0.NL=L.length∧Ev.Calm B0.length Rw.length L.length ⟨B,Rw,L⟩) (ho:Owns Rw rows l)
  (hB:B.length=B0.length) (hbs:(∀ x∈l,x.2.2.under rows.length)→∀ cs∈bs,∀ x∈cs,Under (B0.length+bs.length) rows.length L.length x)
  (he:(∀ x∈l,x.2.2.under rows.length)→Gn (B0.length+bs.length) rows.length L.length e) (h:CX P w0 n M0 W0 ro c Q e ⟨B++bs,rows,L⟩):CX P w0 n M0 W0 ro c Q e ⟨B++(bs++X),rows,L⟩ :=
 D3 hq.1 hq.2.1 hq.2.2.1 hB hq.2.2.2 ho (hbs ho.unders) (he ho.unders) h
theorem fI {α β' β:Type} {ta:α} {tb:β'} {F:Prop} {b:Bool} {X Y r:β} {p:Prop} (f:F) (ht:Tg ta→(b=true∧F)→X=r→p) (hf:Tg tb→(b=false∧F)→Y=r→p):(if b=true then X else Y)=r→Tg (ta,tb)→p:=fun h _=>by
 cases b with
 | true=>exact ht trivial ⟨rfl,f⟩ h
 | false=>exact hf trivial ⟨rfl,f⟩ h
theorem ckA {a b c d:Prop} (cc:d) (co:c) (ce:a) (cs:b):a∧b∧c∧d:=⟨ce,cs,co,cc⟩
def preL:List (List AV)→List (List AV)→Prop
 | [],_=>True
 | _::_,[]=>False
 | b::bs,c::cs=>c=b∧preL bs cs
attribute [go_sem] preL.eq_1 preL.eq_2 preL.eq_3
theorem W2:∀ {bs cs:List (List AV)},preL bs cs→cs=bs++cs.drop bs.length
 | [],_,_=>rfl
 | _::_,[],h=>h.elim
 | b::bs,c::cs,h=>by rw [h.1,List.length_cons,List.drop_succ_cons,List.cons_append,←W2 h.2]
theorem ckI {B bs cs:List (List AV)} {rows:List RowA} {L:List LoopA} (h:preL bs cs):(⟨B++cs,rows,L⟩:St)=⟨B++(bs++cs.drop bs.length),rows,L⟩:=by rw [←W2 h]
theorem ckB {B:List (List AV)} {rows:List RowA} {L:List LoopA}:(⟨B,rows,L⟩:St)=⟨B++([]++[]),rows,L⟩:=by simp
theorem Owns.n1 {Rw rows:List RowA} {sz n m:Nat} {o:Ev.Own} (h:Owns Rw rows [(sz,n,o)]) (e:n=m):Owns Rw rows [(sz,m,o)]:=e▸h
theorem Owns.n2 {Rw rows:List RowA} {sz n m sz' n' m':Nat} {o o':Ev.Own} (h:Owns Rw rows [(sz,n,o),(sz',n',o')]) (e:n=m) (e':n'=m'):Owns Rw rows [(sz,m,o),(sz',m',o')]:=e▸e'▸h
structure AE (P:Program) (t el:TypeId) (sz:Nat) (ag:Bool) (by8:Nat):Prop where
 he:FB P t=some (el,sz,ag,by8)
 hz:(AO P el).isSome=true
 hs:0<sz
theorem ae {P:Program} {t el:TypeId} {sz by8:Nat} {ag:Bool} {z:List AV} (he:FB P t=some (el,sz,ag,by8)) (hz:AO P el=some z) (hs:0<sz:=by decide):AE P t el sz ag by8:=⟨he,by rw [hz];rfl,hs⟩
theorem aI {P:Program} {t el:TypeId} {sz by8 n:Nat} {ag:Bool} {Rw rows:List RowA} {l:List (Nat × Nat × Ev.Own)} {o:Ev.Own} {β:Type} {x:Option β} {r:β} {A p:Prop} (a:AE P t el sz ag by8) (hO:Owns Rw rows ((sz,n,o)::l)) (f:A)
  (k:∀ o' rows',Owns Rw rows' ((sz,n+1,o')::l)→((n+1)*by8≤140737488355328∧n+1≤4611686018427387904) →
   ((∀ (xs:List AV) (y:AV) (B:Aq) (L:Av) (o2:Ev.Own),xs.length=n→(∀ z∈xs,z.cells.length=sz)→evAppend P ⟨B,rows,L⟩ t (.list xs o) (.list [y] o2)=((y.cells.length=sz∧Ax y=true),.list (xs++[y.pub]) o',⟨B,rows',L⟩))∧A)→x=some r→p) :
  (if (n+1)*by8≤140737488355328∧n+1≤4611686018427387904 then x else none)=some r→p:=fun h=>by
 obtain ⟨c,h⟩:=An h
 obtain ⟨o',rows',b,q⟩:=hO.append (P:=P) a.he a.hz a.hs 1 c.1 c.2
 refine k o' rows' b c ⟨fun xs y B L o2 e d=>?_,f⟩ h
 have:=q xs [y] B L o2 e rfl d
 simpa only [List.mem_singleton,forall_eq,List.map_cons,List.map_nil] using this
theorem q1 {a:Prop} (x:a):a∧True:=⟨x,trivial⟩
theorem q2 {a b:Prop} (x:a) (y:b):a∧b∧True:=⟨x,y,trivial⟩
theorem q3 {a b c:Prop} (x:a) (y:b) (z:c):a∧b∧c∧True:=⟨x,y,z,trivial⟩
theorem skI {d:Bool} {fv:AV} {args:List AV} {k:AV→St→Prop} (h:k .junk st):Hw P w0 false d fv args st k:=II h
theorem Zln {B:List (List AV)} {l:Nat} {c:List AV} (h:B[l]? = some c):B[l]? = some c:=h
theorem Zfo {f:FuncId} {c d:Bool} {cs args args':List AV} {k:AV→St→Prop} {v:AV}
  (hA:ACalls P w0 f args' st fun r s=>r=v∧s=st) (hE:args++cs=args') (hk:k v st):Hw P w0 c d (.clo f cs) args st k:=ZcW v hA hE hk
end
theorem go {T F C1 C2 C3 C G H HC HK p:Prop} (tL:T) (h:H) (hs:F) (hN:C1) (hNR:C2) (hNL:C3) (hcalm:C) (hO:G) (hc:HC) (hk:HK) (k:T→H→F→C1→C2→C3→C→G→HC→HK→p:=by
    intro tL h hs hN hNR hNL hcalm hO hc hk
    try
      ((with_reducible apply te ⟨hN,hNR,hNL,hcalm⟩ hO)
       case' hB=>first | rfl | simp only [List.length_set]
       case' hbs=>(intro hU;(try simp only [List.mem_cons,List.not_mem_nil,or_false,forall_eq_or_imp,forall_eq] at hU);(first | simp +decide only [go_sem,Nat.reduceAdd,Gn,hU] | simp +decide only [go_sem,Nat.reduceAdd,Gn])<;>(try (repeat' apply Ad))<;>first | omega | assumption | exact hU.1 | exact hU.2 | exact hU.2.1 | exact hU.2.2)
       case' he=>(intro hU;(try simp only [List.mem_cons,List.not_mem_nil,or_false,forall_eq_or_imp,forall_eq] at hU);(first | simp +decide only [go_sem,Nat.reduceAdd,Gn,hU] | simp +decide only [go_sem,Nat.reduceAdd,Gn])<;>(try (repeat' apply Ad))<;>first | omega | assumption | exact hU.1 | exact hU.2 | exact hU.2.1 | exact hU.2.2))
    repeat' first
      | (revert h;(with_reducible refine xI hs ?_);intro x hxa hxb hs h)
      | (revert h;(with_reducible refine bI2 (by assumption) ?_);intro h)
      | (revert h;(with_reducible refine bI ?_);intro y hy h)
      | (revert h;(first | (with_reducible refine aI hc.1 hO hs ?_) | (with_reducible refine aI hc.2.1 hO hs ?_) | (with_reducible refine aI hc.2.2.1 hO hs ?_) | (with_reducible refine aI hc.2.2.2.1 hO hs ?_) | (with_reducible refine aI hc.2.2.2.2.1 hO hs ?_));intro o rows hO hg hs h)
      | (revert h;(first | (with_reducible refine aI hc.1 (hO.full _ 0) hs ?_) | (with_reducible refine aI hc.2.1 (hO.full _ 0) hs ?_) | (with_reducible refine aI hc.2.2.1 (hO.full _ 0) hs ?_) | (with_reducible refine aI hc.2.2.2.1 (hO.full _ 0) hs ?_) | (with_reducible refine aI hc.2.2.2.2.1 (hO.full _ 0) hs ?_));intro o rows hO hg hs h)
      | (revert h;(first | (with_reducible refine aI hc.1 (hO.swap (List.Perm.swap _ _ _)) hs ?_) | (with_reducible refine aI hc.2.1 (hO.swap (List.Perm.swap _ _ _)) hs ?_) | (with_reducible refine aI hc.2.2.1 (hO.swap (List.Perm.swap _ _ _)) hs ?_) | (with_reducible refine aI hc.2.2.2.1 (hO.swap (List.Perm.swap _ _ _)) hs ?_) | (with_reducible refine aI hc.2.2.2.2.1 (hO.swap (List.Perm.swap _ _ _)) hs ?_));intro o rows hO hg hs h)
      | (revert h;(first | (with_reducible refine aI hc.1 ((hO.full _ 0).swap (List.Perm.swap _ _ _)) hs ?_) | (with_reducible refine aI hc.2.1 ((hO.full _ 0).swap (List.Perm.swap _ _ _)) hs ?_) | (with_reducible refine aI hc.2.2.1 ((hO.full _ 0).swap (List.Perm.swap _ _ _)) hs ?_) | (with_reducible refine aI hc.2.2.2.1 ((hO.full _ 0).swap (List.Perm.swap _ _ _)) hs ?_) | (with_reducible refine aI hc.2.2.2.2.1 ((hO.full _ 0).swap (List.Perm.swap _ _ _)) hs ?_));intro o rows hO hg hs h)
      | (revert h;(with_reducible refine gI ?_);intro hg h)
      | (with_reducible apply Ad)
      | ((with_reducible refine hK _ _ ?_);clear hK)
      | (with_reducible refine hk.1 _ _ ?_)
      | (with_reducible refine hk.2.1 _ _ ?_)
      | (with_reducible refine hk.2.2.1 _ _ ?_)
      | (with_reducible exact hk.2.1 _ _ h)
      | (clear hK;(with_reducible refine hK _ _ ?_);clear hK)
      | (clear hK;clear hK;(with_reducible refine hK _ _ ?_);clear hK)
      | ((with_reducible refine evI ?_);simp +decide only [go_sem,Nat.reduceAdd,hs])
      | (with_reducible refine skI ?_)
      | ((with_reducible apply callG)
         case' hA=>first | apply hc.1 | apply hc.2.1 | apply hc.2.2.1 | apply hc.2.2.2.1 | apply hc.2.2.2.2.1 | apply hc.2.2.2.2.2.1 | apply hc.2.2.2.2.2.2.1 | apply hc.2.2.2.2.2.2.2.1
         case' hE=>rfl
         try (any_goals assumption))
      | ((with_reducible apply callG)
         case' hA=>first | apply hc.1 | apply hc.2.1 | apply hc.2.2.1 | apply hc.2.2.2.1 | apply hc.2.2.2.2.1 | apply hc.2.2.2.2.2.1 | apply hc.2.2.2.2.2.2.1 | apply hc.2.2.2.2.2.2.2.1
         any_goals (show _=some _;assumption)
         case' hE=>first | rfl | (simp +decide only [go_sem,Nat.reduceAdd,hs];done) | (simp +decide only [go_sem,Nat.reduceAdd,Vl.cs,Ty.cs,hs];done)
         try (any_goals assumption))
      | ((with_reducible apply Zfo)
         case' hA=>first | apply hc.1 | apply hc.2.1 | apply hc.2.2.1 | apply hc.2.2.2.1 | apply hc.2.2.2.2.1 | apply hc.2.2.2.2.2.1 | apply hc.2.2.2.2.2.2.1 | apply hc.2.2.2.2.2.2.2.1
         case' hE=>rfl
         try (any_goals first | assumption | exact List.prefix_append _ _ | exact List.prefix_refl _ | exact hO.pre))
      | ((with_reducible apply Zfo)
         case' hA=>first | apply hc.1 | apply hc.2.1 | apply hc.2.2.1 | apply hc.2.2.2.1 | apply hc.2.2.2.2.1 | apply hc.2.2.2.2.2.1 | apply hc.2.2.2.2.2.2.1 | apply hc.2.2.2.2.2.2.2.1
         any_goals (show _=some _;assumption)
         case' hE=>first | rfl | (simp +decide only [go_sem,Nat.reduceAdd,hs];done) | (simp +decide only [go_sem,Nat.reduceAdd,Vl.cs,Ty.cs,hs];done)
         try (any_goals first | assumption | exact List.prefix_append _ _ | exact List.prefix_refl _ | exact hO.pre))
      | ((with_reducible refine Zln ?_);first | rfl | (simp +decide only [go_sem,Nat.reduceAdd,hs];done))
      | ((with_reducible apply Am);intro K hK)
      | ((with_reducible refine Gj (c:=9) tg (tgh tL) ?_);replace tL:=tgt tL)
      | (with_reducible apply As)
      | (revert tL;revert h;(with_reducible apply cI hs)
         case' hc=>simp +decide only [go_sem,Nat.reduceAdd]
         case' hb=>first | (simp +decide only [go_sem,Nat.reduceAdd,hs];done) | (simp +decide only [go_sem,Nat.reduceAdd,hs];rfl)
         case' ht=>intro tL hs h
         case' hf=>intro tL hs h)
      | ((with_reducible refine Bt ?_)
         simp +decide only [go_sem,Nat.reduceAdd,hs]
         first | (have hgt:=Option.some.inj h;subst hgt) | subst h
         first | refine QS hcalm rfl hO.pre ?_ ⟨?_,?_⟩ | refine SI hcalm rfl hO.pre ?_ ⟨?_,?_⟩ | refine QS (DY hcalm ?_) (List.length_set ..) hO.pre ?_ ⟨?_,?_⟩ | refine SI (DY hcalm ?_) (List.length_set ..) hO.pre ?_ ⟨?_,?_⟩ | exact hk.1 _ _ rfl _
         all_goals first | rfl | (simp +decide only [go_sem,Nat.reduceAdd,hs];done) | (simp +decide only [go_sem,Nat.reduceAdd,Vl.cs,Ty.cs,hs];done) | (simp_all;done))
      | ((with_reducible refine Po (tgh tL) ?_);replace tL:=tgt tL;first | (with_reducible refine Ci ?_) | (with_reducible refine HY ?_)
         simp +decide only [go_sem,Nat.reduceAdd])
      | ((with_reducible refine Zjy (tgh tL) Pz ?_);replace tL:=tgt tL)
      | ((with_reducible apply cT)
         case' c1=>simp +decide only [go_sem,Nat.reduceAdd]
         case' c2=>first | rfl | (simp +decide only [go_sem,Nat.reduceAdd,hs];done))
      | ((with_reducible apply cF)
         case' c1=>simp +decide only [go_sem,Nat.reduceAdd]
         case' c2=>first | rfl | (simp +decide only [go_sem,Nat.reduceAdd,hs];done))
      | (revert tL;revert h;(with_reducible refine fI hs ?_ ?_)<;>(intro tL hs h;(try have hs:=Ad (of_decide_eq_true hs.1) hs);(try have hs:=Ad (of_decide_eq_false hs.1) hs);try simp +decide only [go_sem,Nat.reduceAdd,hs]))
      | ((with_reducible apply Exists.intro)
         repeat (with_reducible apply Exists.intro)
         (with_reducible apply ckA)
         case' cc=>exact h
         case' co=>first | exact hO | (refine Owns.n1 hO ?_;first | rfl | simp only [List.length_append,List.length_cons,List.length_nil,List.length_map,Nat.zero_add,Nat.add_zero]) | (refine Owns.n2 (hO.swap (List.Perm.swap _ _ _)) ?_ ?_<;>(first | rfl | simp only [List.length_append,List.length_cons,List.length_nil,List.length_map,Nat.zero_add,Nat.add_zero])) | (refine Owns.n2 hO ?_ ?_<;>(first | rfl | simp only [List.length_append,List.length_cons,List.length_nil,List.length_map,Nat.zero_add,Nat.add_zero]))
         case' cs=>first | exact ckB | (refine ckI ?_;first | rfl | (simp +decide only [go_sem,Nat.reduceAdd,hs];done))
         case' ce=>first | rfl | (simp +decide only [go_sem,Nat.reduceAdd,hs];done))
      | exact cl):p:=k tL h hs hN hNR hNL hcalm hO hc hk
end Go.Proofs.YtcdnijfbfdnjlaaGreatDoor
namespace Go.Ev
open Go Go.RowKit
def Mem.start:Mem:=⟨0,0,fun _=>0,fun _=>0,fun _=>0,fun _=>0,fun _=>0,fun _=>0,0,fun _=>0⟩
theorem QH (W:World):RelSt W Mem.start ⟨[],[],[]⟩ W where
 below := .refl _ _
 N:=rfl
 NR:=rfl
 top:=fun _ _=>rfl
 inj:=fun _ _ h=>absurd h (Nat.not_lt_zero _)
 box:=fun _ _ h=>by simp at h
 row:=fun _ _ h=>by simp at h
 rowinj:=fun _ _ h=>absurd h (Nat.not_lt_zero _)
 loop:=⟨rfl,fun _ _ h=>absurd h (Nat.not_lt_zero _),fun _ _ h=>by simp at h⟩
theorem NA {P:Program} {f:FuncId} {W:World} {vals:Array Value} {args:List AV} {r:Value} (h:ACalls P W f args ⟨[],[],[]⟩ fun v st=>v = .val r∧st=⟨[],[],[]⟩) (hr:RowR W Mem.start W vals args) :
  Calls P f vals W fun e w'=>e = .returned r∧Below W.heap.size W w' :=
 (h.2 Mem.start W vals (QH W) hr).mono fun en w' ⟨v,M',a,st,h1,⟨h2,_⟩,_,h4,h5⟩=>by
  subst h2
  have:=h5.val_inv.1
  subst this
  exact ⟨h1,h4.below⟩
theorem Z1 {W:World} {v u:Value} {x y:AV} (h:R W Mem.start W v x) (k:R W Mem.start W u y):RowR W Mem.start W #[v,u] [x,y]:=⟨rfl,fun i b a=>by
 have:i=0∨i=1:=by simp at a;omega
 rcases this with rfl | rfl
 ·exact h
 ·exact k⟩
end Go.Ev
namespace Go.Proofs.YtcdnijfbfdnjlaaGreatDoor
open Go Go.Shelf Go.ChangeShapes Go.WideShapes Go.ChangeAt Go.RowKit Go.Lib Go.Ev
open Go.ChangeMaps (open_string shut_string)
set_option maxRecDepth 100000
theorem Zdo:ownKnob Tryz.prog.godebug=none:=by kernel_rfl
def Zh6:DataW Unit→List Value
 | .lit (.int k z)=>[.int k z]
 | .agg l=>l.flatMap fun | .lit (.int k z)=>[.int k z] | _=>[]
 | _=>[]
def Zi0:DataW Unit→List Value
 | .agg l=>l.flatMap Zh6
 | _=>[]
theorem OD {W:World} (h:Lib.VarReads Tryz.prog W JJ Rows.laid_internal_strconv_uint64pow10):Pow10 W:=by
 obtain ⟨g,t,cs,b,p,c,f,d,a⟩:=h
 obtain rfl:=Option.some.inj ((show Tryz.prog.globalNamed JJ=some 3 by kernel_rfl).symm.trans c)
 obtain rfl:=Option.some.inj ((show (Tryz.prog.globals[3]?).map (·.type)=some 306 by kernel_rfl).symm.trans f)
 have e:(Rows.laid_internal_strconv_uint64pow10:DataW Unit)=Lib.tabData .u64 Lib.pow10Tab:=by kernel_rfl
 rw [e] at a
 unfold Pow10 Lib.TabIs
 rw [d,←Lib.cells_of_tab (n:=20) (k := .u64) (zs:=Lib.pow10Tab) Tryz.underlying306 Tryz.underlying223 (by kernel_rfl) (by kernel_rfl) a]
set_option maxRecDepth 100000
mutual
def Vl.wf:Vl→Prop
 | .mk k i s t l f=>Bj k∧Bj i∧Bj s∧t.size≤maxLen∧l.length≤maxLen∧f.length≤maxLen∧Zak l∧Ze f
def Zak:List Vl→Prop
 | []=>True
 | v::r=>v.wf∧Zak r
def Ze:List (ByteArray × Vl)→Prop
 | []=>True
 | (n,v)::r=>n.size≤maxLen∧v.wf∧Ze r
end
theorem Um:∀ l,Zak l↔∀ v∈l,v.wf
 | []=>by simp [Zak]
 | v::r=>by simp [Zak,Um r]
theorem T8:∀ l,Ze l↔∀ p∈l,p.1.size≤maxLen∧p.2.wf
 | []=>by simp [Ze]
 | (n,v)::r=>by simp [Ze,T8 r,and_assoc]
mutual
def Ty.wf:Ty→Prop
 | .mk k lo hi s w e f=>Bj k∧Bj lo∧Bj hi∧Bj s∧(∀ x∈w,x.size≤maxLen)∧w.length≤maxLen∧e.length≤maxLen∧f.length≤maxLen∧YT e∧SC f
def YT:List Ty→Prop
 | []=>True
 | v::r=>v.wf∧YT r
def SC:List (Int × ByteArray × Int × Ty × List Vl)→Prop
 | []=>True
 | (n,s,d,t,l)::r=>(Bj n∧s.size≤maxLen∧Bj d∧t.wf∧l.length≤maxLen∧∀ v∈l,v.wf)∧SC r
end
theorem Uz:∀ l,YT l↔∀ v∈l,v.wf
 | []=>by simp [YT]
 | v::r=>by simp [YT,Uz r]
theorem QI:∀ l,SC l↔∀ p∈l,Bj p.1∧p.2.1.size≤maxLen∧Bj p.2.2.1∧p.2.2.2.1.wf∧p.2.2.2.2.length≤maxLen∧∀ v∈p.2.2.2.2,v.wf
 | []=>by simp [SC]
 | (n,s,d,t,l)::r=>by simp [SC,QI r]
mutual
def Vl.bulk:Vl→Nat
 | .mk _ _ _ t l f=>1+t.size+Kw l+RN f
def Kw:List Vl→Nat
 | []=>0
 | v::r=>v.bulk+Kw r
def RN:List (ByteArray × Vl)→Nat
 | []=>0
 | (n,v)::r=>n.size+v.bulk+RN r
end
def QW:List ByteArray→Nat
 | []=>0
 | w::r=>w.size+1+QW r
mutual
def Ty.bulk:Ty→Nat
 | .mk _ _ _ _ w e f=>1+QW w+QY e+NH f
def QY:List Ty→Nat
 | []=>0
 | v::r=>v.bulk+QY r
def NH:List (Int × ByteArray × Int × Ty × List Vl)→Nat
 | []=>0
 | (_,n,_,t,l)::r=>n.size+t.bulk+Kw l+NH r
end
theorem KT:∀ l,Kw l=(l.map Vl.bulk).sum
 | []=>rfl
 | v::r=>by rw [Kw,KT r];rfl
theorem OG:∀ l,RN l=(l.map fun p=>p.1.size+p.2.bulk).sum
 | []=>rfl
 | (n,v)::r=>by rw [RN,OG r];rfl
theorem OR:∀ l,QW l=(l.map fun w=>w.size+1).sum
 | []=>rfl
 | v::r=>by rw [QW,OR r];rfl
theorem O8:∀ l,QY l=(l.map Ty.bulk).sum
 | []=>rfl
 | v::r=>by rw [QY,O8 r];rfl
theorem M8:∀ l,NH l=(l.map fun p=>p.2.1.size+p.2.2.2.1.bulk+Kw p.2.2.2.2).sum
 | []=>rfl
 | (a,n,b,t,l)::r=>by rw [NH,M8 r];rfl
def Part.wf (p:Part):Prop:=Bj p.kind∧Bj p.index∧p.name.size≤maxLen
def Sch.wf (s:Sch):Prop:=s.name.size≤maxLen∧Bj s.version∧s.type.wf
section
variable {H:Type} {enc:TypeId × Value→H} {W:World}
def RC (W:World) (cs:List Value) (xs:List AV):Prop:=cs.length=xs.length∧∀ i (h1:i<cs.length) (h2:i<xs.length),R W Mem.start W cs[i] xs[i]
theorem RC.nil:RC W [] []:=⟨rfl,fun i a=>absurd a (by simp)⟩
theorem RC.cons {v:Value} {x:AV} {cs:List Value} {xs:List AV} (h:R W Mem.start W v x) (k:RC W cs xs):RC W (v::cs) (x::xs):=⟨by simp [k.1],fun i a b=>by
 cases i with
 | zero=>exact h
 | succ i=>simpa using k.2 i (by simpa using a) (by simpa using b)⟩
theorem RC.app {cs ds:List Value} {xs ys:List AV} (h:RC W cs xs) (k:RC W ds ys):RC W (cs++ds) (xs++ys):=by
 refine ⟨by simp [h.1,k.1],fun i a b=>?_⟩
 by_cases c:i<cs.length
 ·rw [List.getElem_append_left c,List.getElem_append_left (h.1▸c)];exact h.2 i c _
 ·rw [List.getElem_append_right (Nat.le_of_not_lt c),List.getElem_append_right (h.1▸Nat.le_of_not_lt c)]
  simp only [h.1]
  exact k.2 _ (by have:=h.1;rw [List.length_append] at a;omega) (by have:=h.1;rw [List.length_append] at b;omega)
theorem RC.agg {cs:List Value} {xs:List AV} (h:RC W cs xs) (h1:∀ x∈xs,x.one=true):R W Mem.start W (.agg cs.toArray) (.agg xs) := .agg (by simpa using h.1) h1 (fun i a b=>by simpa using h.2 i (by simpa using a) b)
noncomputable abbrev Td (enc:TypeId × Value→H) (W:World) (n:Nat) (t:TypeId) (cs:List Value):Option (DataW H × List MemPlace):=DataW.trod enc Tryz.prog W 0 (fun _=>true) true n t cs
theorem MA (d:DataW H):1≤Rows.uptoBulk d:=by
 cases d with
 | lit l=>cases l<;>simp [Rows.uptoBulk]
 | _=>simp [Rows.uptoBulk]
theorem QF {α:Type} (m:α→Nat):∀ (l:List α) (es:List (DataW H × List MemPlace)),l.length=es.length→(∀ i (h1:i<l.length) (h2:i<es.length),m l[i]≤Rows.uptoBulk es[i].1)→(l.map m).sum≤Rows.uptoBulkAll (es.map (·.1))
 | [],_,_,_=>by simp
 | y::r,[],h,_=>by simp at h
 | y::r,e::es,h,k=>by
  have a:=k 0 (by simp) (by simp)
  have:=QF m r es (by simpa using h) (fun i h1 h2=>by have:=k (i+1) (by simpa using h1) (by simpa using h2);simpa using this)
  simp only [List.map_cons,List.sum_cons,Rows.uptoBulkAll,List.getElem_cons_zero] at a ⊢
  omega
theorem CG {n:Nat} {cs:List Value} {x:DataW H × List MemPlace} (h:Td enc W n 3 cs=some x):∃ z,Bj z∧cs=[.int .i64 z]:=by
 obtain ⟨z,rfl,_,a⟩:=DataW.trod_int Tryz.underlying3 h
 refine ⟨z,?_,rfl⟩
 simp [Lit.wf,IntKind.min,IntKind.max,IntKind.signed,IntKind.bits] at a
 unfold Bj
 omega
theorem IJ {n:Nat} {cs:List Value} {x:DataW H × List MemPlace} (h:Td enc W n 9 cs=some x):∃ s:ByteArray,s.size≤maxLen∧cs=[.string s]∧s.size+1≤Rows.uptoBulk x.1:=by
 obtain ⟨s,rfl,rfl,a⟩:=DataW.trod_string Tryz.underlying9 h
 exact ⟨s,a,rfl,by simp [Rows.uptoBulk]⟩
theorem Es {α:Type} (f:α→AV) (p:α→Prop) (m:α→Nat) {t e:TypeId} {sz:Nat} (ht:Tryz.prog.underlying t=some (.slice e)) (hc:Tryz.prog.cellsOf e=sz) (hsz:0<sz) {n:Nat}
  (H0:∀ cs x,Td enc W n e cs=some x→∃ y u,p y∧u.cells.toList=cs∧R W Mem.start W u (f y)∧m y≤Rows.uptoBulk x.1) {cs:List Value} {x:DataW H × List MemPlace} (h:Td enc W (n+1) t cs=some x) :
  ∃ (l:List α) (v:Value),(∀ y∈l,p y)∧l.length≤maxLen∧cs=[v]∧R W Mem.start W v (.list (l.map f) .none)∧(l.map m).sum+1≤Rows.uptoBulk x.1:=by
 rcases DataW.trod_slice ht h with ⟨rfl,_⟩ | ⟨a,len,cap,elems,rest,n',hn,rfl,rfl,hb,hl,hm,hlen,hel,hsp,_⟩
 ·exact ⟨[],_,by simp,by simp,rfl,.nil (fun id=>by simp),by simpa using MA x.1⟩
 ·cases hn
  by_cases hcap:cap=0
  ·subst hcap
   obtain rfl:len=0:=by omega
   exact ⟨[],_,by simp,by simp,rfl,.emp (fun id=>by simp),by simpa using MA _⟩
  have hspot:a.spot=none:=by
   have get:∀ (c:DataW H × List MemPlace) (r:List Value→Option (DataW H × List MemPlace)),(W.cells? 0 (a.add (0*Tryz.prog.cellsOf e)) (Tryz.prog.cellsOf e)).bind r=some c→a.spot=none:=fun c r hr=>by
    obtain ⟨cs',D,_⟩:=Option.bind_eq_some_iff.1 hr
    obtain ⟨_,E,F⟩:=World.cells?_some D
    have h4:=F 0 (by omega)
    rw [List.getElem?_eq_getElem (by omega)] at h4
    have Y:(a.add (0*Tryz.prog.cellsOf e)).add 0=a:=by simp [Addr.add]
    rw [Y] at h4
    unfold World.cell? at h4
    split at h4
    ·split at h4
     ·cases h4
     ·rename_i q;simpa using q
    ·cases h4
   by_cases h0:0<len
   ·have:=hel 0 h0
    rw [List.getElem?_eq_getElem (by omega)] at this
    exact get _ _ this
   ·obtain ⟨D,E⟩:=hsp rfl
    have:=E 0 (by omega)
    rw [List.getElem?_eq_getElem (by omega)] at this
    obtain rfl:len=0:=by omega
    exact get _ _ this
  obtain ⟨b,off,sp⟩:=a
  simp only at hspot
  subst hspot
  have C:∀ i,i<len→∃ y u,p y∧R W Mem.start W u (f y)∧(∀ h:i<elems.length,m y≤Rows.uptoBulk elems[i].1)∧u.cells.size=sz∧∀ j,j<sz→W.cell? ⟨b,off+i*sz+j,none⟩=u.cells[j]? := fun i k=>by
   have D:=hel i k
   rw [List.getElem?_eq_getElem (by omega)] at D
   obtain ⟨cs',E,F⟩:=Option.bind_eq_some_iff.1 D
   obtain ⟨y,u,h4,V,h6,K⟩:=H0 _ _ F
   obtain ⟨_,O,Q⟩:=World.cells?_some E
   rw [hc] at O Q
   refine ⟨y,u,h4,h6,fun _=>K,by rw [←O,←V,Array.length_toList],fun j G=>?_⟩
   have:=Q j G
   rw [←V,Array.getElem?_toList] at this
   rw [←this]
   congr 1
   have U:∀ (o m:Nat),(⟨b,o,none⟩:Addr).add m=⟨b,o+m,none⟩:=fun o m=>by unfold Addr.add;split<;>simp_all
   rw [U,U]
  classical
  let y:Nat→Option (α × Value):=fun i=>if k:i<len then some (Classical.choose (C i k),Classical.choose (Classical.choose_spec (C i k))) else none
  have N:len=0∨Nonempty (α × Value):=by
   by_cases h0:0<len
   ·obtain ⟨z,u,_⟩:=C 0 h0;exact .inr ⟨(z,u)⟩
   ·exact .inl (by omega)
  rcases N with h0 | ⟨⟨d⟩⟩
  ·subst h0
   exact ⟨[],_,by simp,by simp,rfl,.list (xs:=[]) 0 (fun _=>undef) (Nat.zero_le _) hm (fun i k=>absurd k (by simp)) (fun i k=>absurd k (by simp)) trivial,by simpa using MA _⟩
  ·let g:Nat→α × Value:=fun i=>if k:i<len then (Classical.choose (C i k),Classical.choose (Classical.choose_spec (C i k))) else d
   have J:∀ i,i<len→p (g i).1∧R W Mem.start W (g i).2 (f (g i).1)∧(∀ h:i<elems.length,m (g i).1≤Rows.uptoBulk elems[i].1)∧(g i).2.cells.size=sz∧∀ j,j<sz→W.cell? ⟨b,off+i*sz+j,none⟩=(g i).2.cells[j]? := fun i k=>by
    have:=Classical.choose_spec (Classical.choose_spec (C i k))
    simp only [g,dif_pos k]
    exact this
   have s:(((List.range len).map fun i=>(g i).1).map f).length=len:=by simp
   refine ⟨(List.range len).map fun i=>(g i).1,.slice (some ⟨b,off,none⟩) len cap,fun z Z=>?_,by simp;omega,rfl,?_,?_⟩
   ·obtain ⟨i,k,rfl⟩:=List.mem_map.1 Z
    exact (J i (by simpa using k)).1
   ·have:=Ev.R.list (w0:=W) (M:=Ev.Mem.start) (w:=W) (b:=b) (off:=off) (cap:=cap) (xs:=((List.range len).map fun i=>(g i).1).map f) (o := .none) sz (fun i=>(g i).2) (by rw [s];exact hl) hm
     (fun i k=>by
      rw [s] at k
      obtain ⟨_,_,_,F,h4⟩:=J i k
      refine ⟨F,fun j G=>⟨.inl ?_,h4 j G⟩⟩
      have:=h4 j G
      rw [Array.getElem?_eq_getElem (by rw [F];exact G)] at this
      exact World.block_lt_of_cell? W _ this) (fun i k=>by
      rw [s] at k
      simp only [List.getElem_map,List.getElem_range]
      exact (J i k).2.1) trivial
    rw [s] at this
    exact this
   ·have:=QF m ((List.range len).map fun i=>(g i).1) elems (by simp;omega) (fun i D E=>by
     simp only [List.getElem_map,List.getElem_range]
     exact (J i (by omega)).2.2.1 E)
    simp only [Rows.uptoBulk]
    omega
theorem Vl.ones (v:Vl):∀ x∈v.cs,x.one=true:=by
 cases v;intro x hx
 simp only [Vl.cs,List.mem_cons,List.not_mem_nil,or_false] at hx
 rcases hx with rfl | rfl | rfl | rfl | rfl | rfl<;>rfl
theorem Ty.ones (v:Ty):∀ x∈v.cs,x.one=true:=by
 cases v;intro x hx
 simp only [Ty.cs,List.mem_cons,List.not_mem_nil,or_false] at hx
 rcases hx with rfl | rfl | rfl | rfl | rfl | rfl | rfl<;>rfl
theorem KA:∀ (n:Nat) (cs:List Value) (x:DataW H × List MemPlace),Td enc W n 49 cs=some x→∃ v:Vl,v.wf∧RC W cs v.cs∧v.bulk≤Rows.uptoBulk x.1
 | 0,cs,x,h=>by simp [Td,DataW.trod] at h
 | n+1,cs,x,h=>by
  obtain ⟨xs,N,hn,rfl,d,hx,a⟩:=DataW.trod_struct Tryz.underlying49 h
  cases hn
  have C:cs.length=6:=d.trans (by kernel_rfl)
  have r:xs.length=6:=hx
  match cs,C,xs,r,a with
  | [c0,c1,c2,c3,c4,c5],_,[y0,y1,y2,y3,y4,y5],_,a =>
  have f0:_=some y0:=a 0 _ rfl;have Y:_=some y1:=a 1 _ rfl;have Q:_=some y2:=a 2 _ rfl;have O:_=some y3:=a 3 _ rfl;have J:_=some y4:=a 4 _ rfl;have U:_=some y5:=a 5 _ rfl
  obtain ⟨k,Z,ek⟩:=CG f0
  obtain ⟨i,hi,ei⟩:=CG Y
  obtain ⟨s,hs,es⟩:=CG Q
  obtain ⟨t,G,et,bt⟩:=IJ O
  cases n with
  | zero=>simp [DataW.trod] at J
  | succ n =>
  obtain ⟨l,vl,u,w,el,e,bl⟩:=Es Dp Vl.wf Vl.bulk Tryz.underlying46 (sz:=6) (by kernel_rfl) (by omega) (fun cs x h=>by
   obtain ⟨v,hv,b,E⟩:=KA n cs x h
   exact ⟨v,.agg cs.toArray,hv,by simp [Value.cells],b.agg v.ones,E⟩) J
  obtain ⟨fl,vf,g,D,ef,f,bf⟩:=Es Ld (fun p=>p.1.size≤maxLen∧p.2.wf) (fun p=>p.1.size+p.2.bulk) Tryz.underlying47 (sz:=7) (by kernel_rfl) (by omega) (fun cs x h=>by
   cases n with
   | zero=>simp [DataW.trod] at h
   | succ n =>
   obtain ⟨F,N,hn,rfl,d,hx,a⟩:=DataW.trod_struct Tryz.underlying110 h
   cases hn
   have o:cs.length=7:=d.trans (by kernel_rfl)
   have z:F.length=2:=hx
   match F,z,a with
   | [w0,w1],_,a =>
   have V:_=some w0:=a 0 _ rfl;have q1:_=some w1:=a 1 _ rfl
   obtain ⟨nm,c,en,bn⟩:=IJ V
   obtain ⟨v,hv,b,E⟩:=KA n _ _ q1
   have K:Tryz.prog.cellsOf 49=6:=by kernel_rfl
   have e3:Tryz.prog.cellsOf 9=1:=by kernel_rfl
   simp only [List.getElem_toArray,List.getElem_cons_zero,List.getElem_cons_succ,K,e3] at en b
   match cs,o with
   | [c0,c1,c2,c3,c4,c5,c6],_ =>
   simp only [List.drop_zero,List.take_succ_cons,List.take_zero,List.cons.injEq,and_true,List.drop_succ_cons] at en b
   subst en
   refine ⟨(nm,v),.agg #[.string nm,c1,c2,c3,c4,c5,c6],⟨c,hv⟩,rfl,?_,by simp only [List.map_cons,List.map_nil,Rows.uptoBulk,Rows.uptoBulkAll];omega⟩
   exact RC.agg (cs:=[.string nm,c1,c2,c3,c4,c5,c6]) (.cons (.flat (Ag c)) b) (fun x hx=>by
    rcases List.mem_cons.1 hx with rfl | hx
    ·rfl
    ·exact v.ones x hx)) U
  have m:Tryz.prog.cellsOf 3=1:=by kernel_rfl
  have q:Tryz.prog.cellsOf 9=1:=by kernel_rfl
  have y:Tryz.prog.cellsOf 46=1:=by kernel_rfl
  have j:Tryz.prog.cellsOf 47=1:=by kernel_rfl
  simp only [List.getElem_toArray,List.getElem_cons_zero,List.getElem_cons_succ,m,q,y,j,List.drop_zero,List.take_succ_cons,List.take_zero,List.cons.injEq,and_true,List.drop_succ_cons] at ek ei es et el ef
  subst ek ei es et el ef
  refine ⟨.mk k i s t l fl,?_,?_,by simp only [List.map_cons,List.map_nil,Rows.uptoBulk,Rows.uptoBulkAll,Vl.bulk,KT,OG];omega⟩
  ·unfold Vl.wf
   exact ⟨Z,hi,hs,G,w,D,(Um l).2 u,(T8 fl).2 g⟩
  ·rw [Vl.cs,LW,T0]
   exact .cons (.flat rfl) (.cons (.flat rfl) (.cons (.flat rfl) (.cons (.flat (Ag G)) (.cons e (.cons f .nil)))))
theorem RU:∀ (n:Nat) (cs:List Value) (x:DataW H × List MemPlace),Td enc W n 26 cs=some x→∃ v:Ty,v.wf∧RC W cs v.cs∧v.bulk≤Rows.uptoBulk x.1
 | 0,cs,x,h=>by simp [Td,DataW.trod] at h
 | n+1,cs,x,h=>by
  obtain ⟨xs,n',hn,rfl,i,hx,a⟩:=DataW.trod_struct Tryz.underlying26 h
  cases hn
  have t:cs.length=7:=i.trans (by kernel_rfl)
  have N:xs.length=7:=hx
  match cs,t,xs,N,a with
  | [c0,c1,c2,c3,c4,c5,c6],_,[y0,y1,y2,y3,y4,y5,y6],_,a =>
  have f0:_=some y0:=a 0 _ rfl;have f1:_=some y1:=a 1 _ rfl;have f2:_=some y2:=a 2 _ rfl;have f3:_=some y3:=a 3 _ rfl;have f4:_=some y4:=a 4 _ rfl;have f5:_=some y5:=a 5 _ rfl;have f6:_=some y6:=a 6 _ rfl
  obtain ⟨k,hk,ek⟩:=CG f0
  obtain ⟨lo,y,elo⟩:=CG f1
  obtain ⟨hi,D,ehi⟩:=CG f2
  obtain ⟨s,hs,es⟩:=CG f3
  cases n with
  | zero=>simp [DataW.trod] at f4
  | succ n =>
  obtain ⟨w,vw,V,K,ew,Q,bw⟩:=Es JO (fun s=>s.size≤maxLen) (fun w=>w.size+1) Tryz.underlying22 (sz:=1) (by kernel_rfl) (by omega) (fun cs x h=>by
   obtain ⟨s,hs,rfl,c⟩:=IJ h
   exact ⟨s,.string s,hs,rfl,.flat (Ag hs),c⟩) f4
  obtain ⟨el,ve,f,o,ee,J,be⟩:=Es Gx Ty.wf Ty.bulk Tryz.underlying23 (sz:=7) (by kernel_rfl) (by omega) (fun cs x h=>by
   obtain ⟨v,hv,b,c⟩:=RU n cs x h
   exact ⟨v,.agg cs.toArray,hv,by simp [Value.cells],b.agg v.ones,c⟩) f5
  obtain ⟨fl,vf,l,Y,ef,j,bf⟩:=Es GE (fun p=>Bj p.1∧p.2.1.size≤maxLen∧Bj p.2.2.1∧p.2.2.2.1.wf∧p.2.2.2.2.length≤maxLen∧∀ v∈p.2.2.2.2,v.wf) (fun p=>p.2.1.size+p.2.2.2.1.bulk+Kw p.2.2.2.2) Tryz.underlying24 (sz:=11) (by kernel_rfl) (by omega) (fun cs x h=>by
   cases n with
   | zero=>simp [DataW.trod] at h
   | succ n =>
   obtain ⟨Z,n',hn,rfl,i,hx,a⟩:=DataW.trod_struct Tryz.underlying118 h
   cases hn
   have e:cs.length=11:=i.trans (by kernel_rfl)
   have C:Z.length=5:=hx
   match Z,C,a with
   | [w0,w1,w2,w3,w4],_,a =>
   have q0:_=some w0:=a 0 _ rfl;have q1:_=some w1:=a 1 _ rfl;have q2:_=some w2:=a 2 _ rfl;have q3:_=some w3:=a 3 _ rfl;have q4:_=some w4:=a 4 _ rfl
   obtain ⟨u,r,enu⟩:=CG q0
   obtain ⟨nm,d,en,bn⟩:=IJ q1
   obtain ⟨G,E,end'⟩:=CG q2
   obtain ⟨v,hv,b,aa⟩:=RU n _ _ q3
   cases n with
   | zero=>simp [DataW.trod] at q4
   | succ n =>
   obtain ⟨dl,vd,g,O,ed,U,bd⟩:=Es Dp Vl.wf Vl.bulk Tryz.underlying46 (sz:=6) (by kernel_rfl) (by omega) (fun cs x h=>by
    obtain ⟨v,hv,b,c⟩:=KA n cs x h
    exact ⟨v,.agg cs.toArray,hv,by simp [Value.cells],b.agg v.ones,c⟩) q4
   have e1:Tryz.prog.cellsOf 3=1:=by kernel_rfl
   have e2:Tryz.prog.cellsOf 26=7:=by kernel_rfl
   have e3:Tryz.prog.cellsOf 9=1:=by kernel_rfl
   have e4:Tryz.prog.cellsOf 46=1:=by kernel_rfl
   simp only [List.getElem_toArray,List.getElem_cons_zero,List.getElem_cons_succ,e1,e2,e3,e4] at enu en end' b ed
   match cs,e with
   | [c0,c1,c2,c3,c4,c5,c6,c7,c8,c9,c10],_ =>
   simp only [List.drop_zero,List.take_succ_cons,List.take_zero,List.cons.injEq,and_true,List.drop_succ_cons] at enu en end' b ed
   subst enu en end' ed
   refine ⟨(u,nm,G,v,dl),.agg #[.int .i64 u,.string nm,.int .i64 G,c3,c4,c5,c6,c7,c8,c9,c10],⟨r,d,E,hv,O,g⟩,rfl,?_,by simp only [List.map_cons,List.map_nil,Rows.uptoBulk,Rows.uptoBulkAll,KT];omega⟩
   exact RC.agg (cs:=[.int .i64 u,.string nm,.int .i64 G]++([c3,c4,c5,c6,c7,c8,c9]++[c10])) (.cons (.flat rfl) (.cons (.flat (show E1 (.string nm)=true from Ag d)) (.cons (.flat rfl) (b.app (.cons U .nil))))) (fun x hx=>by
    simp only [List.mem_cons,List.mem_append,List.not_mem_nil,or_false] at hx
    rcases hx with rfl | rfl | rfl | hx | rfl
    ·rfl
    ·rfl
    ·rfl
    ·exact v.ones x hx
    ·rfl)) f6
  have q:Tryz.prog.cellsOf 3=1:=by kernel_rfl
  have z:Tryz.prog.cellsOf 22=1:=by kernel_rfl
  have F:Tryz.prog.cellsOf 23=1:=by kernel_rfl
  have m:Tryz.prog.cellsOf 24=1:=by kernel_rfl
  simp only [List.getElem_toArray,List.getElem_cons_zero,List.getElem_cons_succ,q,z,F,m,List.drop_zero,List.take_succ_cons,List.take_zero,List.cons.injEq,and_true,List.drop_succ_cons] at ek elo ehi es ew ee ef
  subst ek elo ehi es ew ee ef
  refine ⟨.mk k lo hi s w el fl,?_,?_,by simp only [List.map_cons,List.map_nil,Rows.uptoBulk,Rows.uptoBulkAll,Ty.bulk,OR,O8,M8];omega⟩
  ·unfold Ty.wf
   exact ⟨hk,y,D,hs,V,K,o,Y,(Uz el).2 f,(QI fl).2 l⟩
  ·rw [Ty.cs,UK,Qw,Zp]
   exact .cons (.flat rfl) (.cons (.flat rfl) (.cons (.flat rfl) (.cons (.flat rfl) (.cons Q (.cons J (.cons j .nil))))))
end
section
variable {H:Type} {enc:TypeId × Value→H} {W:World} {base:Nat} {v:Value} {d:DataW H} {p:List MemPlace}
theorem ZaD {t:TypeId} {fs:Array Field} (ht:Tryz.prog.underlying t=some (.struct fs)) (hv:Value.okWide Tryz.prog W .any base t v):∃ cs,v = .agg cs:=by
 unfold Value.okWide at hv
 rw [ht] at hv
 obtain ⟨cs,h,_⟩:=hv
 exact ⟨cs,h⟩
end
end Go.Proofs.YtcdnijfbfdnjlaaGreatDoor
namespace Go.Proofs.YtcdnijfbfdnjlaaGreatDoor
open Go Go.RowKit Go.Ev
theorem AW {α:Type} {l:List α} {k:Nat} (h:k<l.length):GM l (k:Int)=some l[k]:=ZfH h
theorem BH {a b:Nat}:decide ((a:Int)<(b:Int))=decide (a<b):=by simp
theorem AY {k:Nat} (h:k<1000000000000):Bj ((k:Int)+1):=by unfold Bj;omega
theorem Ty.size_pos (t:Ty):0<t.size:=by cases t;simp [Ty.size];omega
theorem Ty.size_eq (t:Ty):t.size=1+GX t.elem+EV t.fields:=by cases t;simp [Ty.size,Ty.elem,Ty.fields]
theorem Na:∀ (l:List (Int × ByteArray × Int × Ty × List Vl)) (p:Int × ByteArray × Int × Ty × List Vl),p∈l→p.2.2.2.1.size≤EV l
 | [],_,h=>by simp at h
 | (a,b,c,t,d)::r,p,h=>by
  rcases List.mem_cons.1 h with rfl | h
  ·simp [EV]
  ·have:=Na r p h
   simp [EV];omega
theorem Ty.field_size (t:Ty) (p) (h:p∈t.fields):p.2.2.2.1.size<t.size:=by have:=Na _ _ h;have:=t.size_eq;omega
theorem Vl.list_size (v x:Vl) (h:x∈v.list):x.size<v.size:=by have:=IQ _ _ h;have:=v.size_eq;omega
theorem Vl.field_size (v:Vl) (p) (h:p∈v.fields):p.2.size<v.size:=by have:=IA _ _ h;have:=v.size_eq;omega
mutual
def Ty.depth:Ty→Nat
 | .mk _ _ _ _ _ e f=>1+max (JZ e) (Ip f)
def JZ:List Ty→Nat
 | []=>0
 | t::r=>max t.depth (JZ r)
def Ip:List (Int × ByteArray × Int × Ty × List Vl)→Nat
 | []=>0
 | (_,_,_,t,_)::r=>max t.depth (Ip r)
end
mutual
def Vl.ok:Vl→Prop
 | .mk _ _ _ t l f=>t.size≤1048576∧Zz l∧Y8 f
def Zz:List Vl→Prop
 | []=>True
 | v::r=>v.ok∧Zz r
def Y8:List (ByteArray × Vl)→Prop
 | []=>True
 | (n,v)::r=>n.size≤1048576∧v.ok∧Y8 r
end
theorem UG:∀ l,Zz l↔∀ v∈l,v.ok
 | []=>by simp [Zz]
 | v::r=>by simp [Zz,UG r]
theorem S8:∀ l,Y8 l↔∀ p∈l,p.1.size≤1048576∧p.2.ok
 | []=>by simp [Y8]
 | (n,v)::r=>by simp [Y8,S8 r,and_assoc]
def Vl.small (v:Vl):Prop:=v.size≤1048575∧v.depth≤1048576∧v.ok
mutual
def Ty.ok:Ty→Prop
 | .mk _ _ _ _ w e f=>w.length≤1048576∧(∀ x∈w,x.size≤1048576)∧Zr e∧Us f
def Zr:List Ty→Prop
 | []=>True
 | v::r=>v.ok∧Zr r
def Us:List (Int × ByteArray × Int × Ty × List Vl)→Prop
 | []=>True
 | (_,n,_,t,d)::r=>(n.size≤1048576∧t.ok∧d.length≤1048576∧∀ v∈d,v.small)∧Us r
end
theorem TJ:∀ l,Zr l↔∀ v∈l,v.ok
 | []=>by simp [Zr]
 | v::r=>by simp [Zr,TJ r]
theorem Qk:∀ l,Us l↔∀ p∈l,p.2.1.size≤1048576∧p.2.2.2.1.ok∧p.2.2.2.2.length≤1048576∧∀ v∈p.2.2.2.2,v.small
 | []=>by simp [Us]
 | (_,n,_,t,d)::r=>by simp [Us,Qk r]
theorem Ty.ok_eq (t:Ty):t.ok↔t.words.length≤1048576∧(∀ x∈t.words,x.size≤1048576)∧(∀ v∈t.elem,v.ok)∧∀ p∈t.fields,p.2.1.size≤1048576∧p.2.2.2.1.ok∧p.2.2.2.2.length≤1048576∧∀ v∈p.2.2.2.2,v.small:=by
 cases t;simp only [Ty.ok,Ty.words,Ty.elem,Ty.fields,TJ,Qk]
theorem Vl.ok_eq (v:Vl):v.ok↔v.text.size≤1048576∧(∀ x∈v.list,x.ok)∧∀ p∈v.fields,p.1.size≤1048576∧p.2.ok:=by
 cases v;simp only [Vl.ok,Vl.text,Vl.list,Vl.fields,UG,S8]
theorem OO:∀ (l:List Ty) (d:Nat),JZ l≤d↔∀ v∈l,v.depth≤d
 | [],d=>by simp [JZ]
 | v::r,d=>by simp [JZ,Nat.max_le,OO r d]
theorem Nr:∀ (l:List (Int × ByteArray × Int × Ty × List Vl)) (d:Nat),Ip l≤d↔∀ v∈l,v.2.2.2.1.depth≤d
 | [],d=>by simp [Ip]
 | (_,_,_,t,_)::r,d=>by simp [Ip,Nat.max_le,Nr r d]
theorem Ty.depth_eq (t:Ty):t.depth=1+Max.max (JZ t.elem) (Ip t.fields):=by cases t;simp [Ty.depth,Ty.elem,Ty.fields]
theorem Vl.eta (v:Vl):Vl.mk v.kind v.int v.scale v.text v.list v.fields=v:=by cases v;rfl
theorem Ty.eta (v:Ty):Ty.mk v.kind v.min v.max v.scale v.words v.elem v.fields=v:=by cases v;rfl
abbrev TF:=Int × ByteArray × Int × Ty × List Vl
def Ty.small (t:Ty):Prop:=t.size≤600∧t.depth≤12∧t.ok
def Ef (rec:Vl→Int→Option Vl) (n:Nat) (q:Vl) (b:List Vl) (h:List (ByteArray × Vl)):Option Vl :=
 some (Vl.mk q.kind q.int q.scale (q.text.extract 0 ((if 40<(q.text.size:Int) then 40 else (q.text.size:Int))).toNat) b h)
def B7 (rec:Vl→Int→Option Vl) (n:Nat) (a0:Vl) (a1:Int):Nat→(List Vl)→(List (ByteArray × Vl))→Int→Option Vl
 | 0,_,_,_=>none
 | m+1,y,h,b =>
  if ((decide (b<(a0.fields.length:Int)))&&(decide (b<6)))&&(decide (1<a1)) then
   (GM a0.fields b).bind fun q =>
   if 0≤0∧0≤(if 40<(q.1.size:Int) then 40 else (q.1.size:Int))∧(if 40<(q.1.size:Int) then 40 else (q.1.size:Int))≤(q.1.size:Int) then
    if Bj (a1-1) then
     (rec q.2 (a1-1)).bind fun y35 =>
     if (h.length+1)*104≤140737488355328∧h.length+1≤4611686018427387904 then
      if Bj (b+1) then
       (B7 rec n a0 a1 m) y (h++([(q.1.extract 0 ((if 40<(q.1.size:Int) then 40 else (q.1.size:Int))).toNat,y35)])) (b+1)
      else none
     else none
    else none
   else none
  else
   Ef rec n a0 y h
def ET (rec:Vl→Int→Option Vl) (n:Nat) (q:Vl) (h:Int) (b:List Vl):Option Vl :=
 B7 rec n q h n b ([]) 0
def B9 (rec:Vl→Int→Option Vl) (n:Nat) (y:Vl) (q:Int):Nat→(List Vl)→Int→Option Vl
 | 0,_,_=>none
 | m+1,h,b =>
  if ((decide (b<(y.list.length:Int)))&&(decide (b<6)))&&(decide (1<q)) then
   (GM y.list b).bind fun x15 =>
   if Bj (q-1) then
    (rec x15 (q-1)).bind fun y17 =>
    if (h.length+1)*88≤140737488355328∧h.length+1≤4611686018427387904 then
     if Bj (b+1) then
      (B9 rec n y q m) (h++([y17])) (b+1)
     else none
    else none
   else none
  else
   ET rec n y q h
def DX (rec:Vl→Int→Option Vl) (n:Nat) (b:Vl) (h:Int):Option Vl :=
 if 0≤0∧0≤(if 40<(b.text.size:Int) then 40 else (b.text.size:Int))∧(if 40<(b.text.size:Int) then 40 else (b.text.size:Int))≤(b.text.size:Int) then
  B9 rec n b h n ([]) 0
 else none
def AB:Nat→Vl→Int→Option Vl
 | 0,_,_=>none
 | n+1,h,b=>DX (AB n) n h b
def Gy (w0:World) (F:Vl→Int→Option Vl):Prop:=∀ (B:Aq) (Rw:Au) (L:Av) (h:Vl) (b:Int) (r:Vl),F h b=some r→ACalls Tryz.prog w0 21 [.agg (h.cs),Ak b] ⟨B,Rw,L⟩ fun x st=>x = .agg (r.cs)∧st=⟨B,Rw,L⟩
theorem KV (w0:World) (rec:Vl→Int→Option Vl) (ih:Gy w0 rec) (n:Nat):Gy w0 (DX rec n):=by
 intro B Rw L a0 a1 r h
 rw [DX] at h
 refine hd [.cell 4 49] Tryz.func21 Tryz.ntmps21 fun M0 W0 D x y p K w hs=>?_
 simp only [AM]
 refine rg [1,2,4] hs ?_
 obtain ⟨G,h⟩:=An h
 have hs:=Ad (Vl.cs_eqs a0) hs
 refine rg [1,2,4] hs ?_
 refine rg [1,2,4,5] hs ?_
 refine rg [1,2,4,5,6] hs ?_
 refine A2 (fun e st=>∃ (q:List Vl) (i:Ev.Own),Ck e st B Rw L [(1,true,Ak a1),(2,true,.box B.length 0),(4,true,.box (B.length+1) 0),(5,true,.list (q.map Dp) i),(6,true,.list ([]) .full)] [[Ak a0.kind,Ak a0.int,Ak a0.scale,.val (.string (a0.text.extract 0 ((if 40<(a0.text.size:Int) then 40 else (a0.text.size:Int))).toNat)),.list (a0.list.map Dp) .none,.list (a0.fields.map Ld) .none],NI] [(6,q.length,i)] (ET rec n a0 a1 q=some r)) ?_ ?_
 ·intro K8 F
  refine rg [1,2,4,5,6,7] hs ?_
  apply As
  refine AP (fun m e st=>∃ (j:List Vl) (u:Int) (o:Ev.Own),Ck e st B Rw L [(1,true,Ak a1),(2,true,.box B.length 0),(4,true,.box (B.length+1) 0),(5,true,.list (j.map Dp) o),(6,true,.list ([]) .full),(7,true,Ak u)] [[Ak a0.kind,Ak a0.int,Ak a0.scale,.val (.string (a0.text.extract 0 ((if 40<(a0.text.size:Int) then 40 else (a0.text.size:Int))).toNat)),.list (a0.list.map Dp) .none,.list (a0.fields.map Ld) .none],NI] [(6,j.length,o)] (B9 rec n a0 a1 m j u=some r)) n ⟨([]),0,.full,([]),Rw,ef hs,ef hs,Owns.of_eq ((w).full 6 0) EF,h⟩ ?_
  rintro ml10 e st ⟨j,u,o,Xl10,Rl10,rfl,rfl,w,h⟩ Ul10 Vl10
  cases ml10 with
  | zero=>cases h
  | succ ml10 =>
  rw [B9] at h
  exact go (tg (a:=([1,2,4,5,6,7,29],([1,2,4,5,6,7],[1,2,4,5,6,7],[1,2,4,5,6,7],()),[1,2,4,5,6],()))) h hs D x y p w (q2 (ae Py Ji) ih) (q2 F (fun e s=>Vl10 ml10 e s (Nat.lt_succ_self _)))
 ·clear h;rintro e st ⟨q,i,Xk7,Rk7,rfl,rfl,w,h⟩
  rw [ET] at h
  have E:=w.unders
  simp only [List.mem_cons,List.not_mem_nil,or_false,forall_eq_or_imp,forall_eq] at E
  refine td D x y p w ?_
  refine A2 (fun e st=>∃ (k:List Vl) (g:List (ByteArray × Vl)) (t:Ev.Own) (l:Ev.Own),Ck e st B Rw L [(2,true,.box B.length 0),(4,true,.box (B.length+1) 0),(5,true,.list (k.map Dp) t),(6,true,.list (g.map Ld) l)] [[Ak a0.kind,Ak a0.int,Ak a0.scale,.val (.string (a0.text.extract 0 ((if 40<(a0.text.size:Int) then 40 else (a0.text.size:Int))).toNat)),.list (a0.list.map Dp) .none,.list (a0.fields.map Ld) .none],NI] [(6,k.length,t),(7,g.length,l)] (Ef rec n a0 k g=some r)) ?_ ?_
  ·intro K25 C
   refine rg [1,2,4,5,6,8] hs ?_
   apply As
   refine AP (fun m e st=>∃ (c:List Vl) (f:List (ByteArray × Vl)) (v:Int) (d:Ev.Own) (b:Ev.Own),Ck e st B Rw L [(1,true,Ak a1),(2,true,.box B.length 0),(4,true,.box (B.length+1) 0),(5,true,.list (c.map Dp) d),(6,true,.list (f.map Ld) b),(8,true,Ak v)] [[Ak a0.kind,Ak a0.int,Ak a0.scale,.val (.string (a0.text.extract 0 ((if 40<(a0.text.size:Int) then 40 else (a0.text.size:Int))).toNat)),.list (a0.list.map Dp) .none,.list (a0.fields.map Ld) .none],NI] [(6,c.length,d),(7,f.length,b)] (B7 rec n a0 a1 m c f v=some r)) n ⟨q,([]),0,i,.full,([]),Rk7,ef hs,ef hs,Owns.of_eq (((w).full 7 0).swap (List.Perm.swap _ _ _)) EF,h⟩ ?_
   rintro ml27 e st ⟨c,f,v,d,b,Xl27,Rl27,rfl,rfl,w,h⟩ Ul27 Vl27
   cases ml27 with
   | zero=>cases h
   | succ ml27 =>
   rw [B7] at h
   have E:=w.unders
   simp only [List.mem_cons,List.not_mem_nil,or_false,forall_eq_or_imp,forall_eq] at E
   obtain ⟨J,H⟩:=E
   refine td D x y p w ?_
   apply Am;intro K28 z
   refine rg [1,2,4,5,6,8,55] hs ?_
   refine GB h hs ?_ ?_<;>intro hs h
   rotate_left
   ·refine sx [2,4,5,6] hs C ?_
    exact ⟨c,f,d,b,([]),Rl27,ef hs,ef hs,Owns.of_eq (((w).swap (List.Perm.swap _ _ _)).swap (List.Perm.swap _ _ _)) EF,h⟩
   exact go (tg (a:=([1,2,4,5,6,8],[27,1,2,4,5,6,8],[1,2,4,5,6,8],()))) h hs D x y p w (q2 (ae ZfI Xd) ih) (q2 z (fun e s=>Vl27 ml27 e s (Nat.lt_succ_self _)))
  ·clear h;rintro e st ⟨k,g,t,l,Xk24,Rk24,rfl,rfl,w,h⟩
   rw [Ef] at h
   exact go (tg (a:=([2,4],[4],()))) h hs D x y p w trivial trivial
theorem BS (w0:World):∀ n:Nat,Gy w0 (AB n)
 | 0=>fun _ _ _ _ _ _ h=>(nomatch h)
 | n+1=>KV w0 (AB n) (BS w0 n) n
def Ed (rec:Ex→Int→Option Ex) (n:Nat) (q:Ex) (h:List Vl) (b:List Ex):Option Ex :=
 some (Ex.mk q.op q.int (q.text.extract 0 ((if 60<(q.text.size:Int) then 60 else (q.text.size:Int))).toNat) h b)
def Ce (rec:Ex→Int→Option Ex) (n:Nat) (a0:Ex) (y:Int):Nat→(List Vl)→(List Ex)→Int→Option Ex
 | 0,_,_,_=>none
 | m+1,q,h,b =>
  if ((decide (b<(a0.args.length:Int)))&&(decide (b<4)))&&(decide (1<y)) then
   (GM a0.args b).bind fun x31 =>
   if Bj (y-1) then
    (rec x31 (y-1)).bind fun y33 =>
    if (h.length+1)*80≤140737488355328∧h.length+1≤4611686018427387904 then
     if Bj (b+1) then
      (Ce rec n a0 y m) q (h++([y33])) (b+1)
     else none
    else none
   else none
  else
   Ed rec n a0 q h
def EK (rec:Ex→Int→Option Ex) (n:Nat) (h:Ex) (q:Int) (b:List Vl):Option Ex :=
 Ce rec n h q n b ([]) 0
def CP (rec:Ex→Int→Option Ex) (n:Nat) (q:Ex) (a1:Int):Nat→(List Vl)→Int→Option Ex
 | 0,_,_=>none
 | m+1,h,b =>
  if (decide (b<(q.value.length:Int)))&&(decide (b<2)) then
   (GM q.value b).bind fun y =>
   (AB n y 2).bind fun y15 =>
   if (h.length+1)*88≤140737488355328∧h.length+1≤4611686018427387904 then
    if Bj (b+1) then
     (CP rec n q a1 m) (h++([y15])) (b+1)
    else none
   else none
  else
   EK rec n q a1 h
def D1 (rec:Ex→Int→Option Ex) (n:Nat) (b:Ex) (h:Int):Option Ex :=
 if 0≤0∧0≤(if 60<(b.text.size:Int) then 60 else (b.text.size:Int))∧(if 60<(b.text.size:Int) then 60 else (b.text.size:Int))≤(b.text.size:Int) then
  CP rec n b h n ([]) 0
 else none
def Bn:Nat→Ex→Int→Option Ex
 | 0,_,_=>none
 | n+1,h,b=>D1 (Bn n) n h b
def GA (w0:World) (F:Ex→Int→Option Ex):Prop:=∀ (B:Aq) (Rw:Au) (L:Av) (h:Ex) (b:Int) (r:Ex),F h b=some r→ACalls Tryz.prog w0 43 [.agg (h.cs),Ak b] ⟨B,Rw,L⟩ fun x st=>x = .agg (r.cs)∧st=⟨B,Rw,L⟩
theorem La (w0:World) (rec:Ex→Int→Option Ex) (ih:GA w0 rec) (n:Nat):GA w0 (D1 rec n):=by
 intro B Rw L a0 a1 r h
 rw [D1] at h
 refine hd [.cell 4 83] Tryz.func43 Tryz.ntmps43 fun M0 W0 D x y o K w hs=>?_
 simp only [AM]
 refine rg [1,2,4] hs ?_
 obtain ⟨G,h⟩:=An h
 have hs:=Ad (Ex.cs_eqs a0) hs
 refine rg [1,2,4] hs ?_
 refine rg [1,2,4,5] hs ?_
 refine A2 (fun e st=>∃ (p:List Vl) (g:Ev.Own),Ck e st B Rw L [(1,true,Ak a1),(2,true,.box B.length 0),(4,true,.box (B.length+1) 0),(5,true,.list (p.map Dp) g)] [[Ak a0.op,Ak a0.int,.val (.string (a0.text.extract 0 ((if 60<(a0.text.size:Int) then 60 else (a0.text.size:Int))).toNat)),.list (a0.value.map Dp) .none,.list (a0.args.map Ir) .none],[Ak 0,Ak 0,.val (.string (⟨#[]⟩:ByteArray)),.list ([]) .full,.list ([]) .full]] [(6,p.length,g)] (EK rec n a0 a1 p=some r)) ?_ ?_
 ·intro K7 F
  refine rg [1,2,4,5,6] hs ?_
  apply As
  refine AP (fun m e st=>∃ (t:List Vl) (v:Int) (q:Ev.Own),Ck e st B Rw L [(1,true,Ak a1),(2,true,.box B.length 0),(4,true,.box (B.length+1) 0),(5,true,.list (t.map Dp) q),(6,true,Ak v)] [[Ak a0.op,Ak a0.int,.val (.string (a0.text.extract 0 ((if 60<(a0.text.size:Int) then 60 else (a0.text.size:Int))).toNat)),.list (a0.value.map Dp) .none,.list (a0.args.map Ir) .none],[Ak 0,Ak 0,.val (.string (⟨#[]⟩:ByteArray)),.list ([]) .full,.list ([]) .full]] [(6,t.length,q)] (CP rec n a0 a1 m t v=some r)) n ⟨([]),0,.full,([]),Rw,ef hs,ef hs,Owns.of_eq ((w).full 6 0) EF,h⟩ ?_
  rintro ml9 e st ⟨t,v,q,Xl9,Rl9,rfl,rfl,w,h⟩ Ul9 Vl9
  cases ml9 with
  | zero=>cases h
  | succ ml9 =>
  rw [CP] at h
  exact go (tg (a:=([1,2,4,5,6,25],([1,2,4,5,6],[1,2,4,5,6],[1,2,4,5,6],()),[1,2,4,5],()))) h hs D x y o w (q2 (ae Py Ji) (BS w0 n)) (q2 F (fun e s=>Vl9 ml9 e s (Nat.lt_succ_self _)))
 ·clear h;rintro e st ⟨p,g,Xk6,Rk6,rfl,rfl,w,h⟩
  rw [EK] at h
  have E:=w.unders
  simp only [List.mem_cons,List.not_mem_nil,or_false,forall_eq_or_imp,forall_eq] at E
  refine td D x y o w ?_
  refine rg [1,2,4,5,7] hs ?_
  refine A2 (fun e st=>∃ (j:List Vl) (i:List Ex) (k:Ev.Own) (l:Ev.Own),Ck e st B Rw L [(2,true,.box B.length 0),(4,true,.box (B.length+1) 0),(5,true,.list (j.map Dp) k),(7,true,.list (i.map Ir) l)] [[Ak a0.op,Ak a0.int,.val (.string (a0.text.extract 0 ((if 60<(a0.text.size:Int) then 60 else (a0.text.size:Int))).toNat)),.list (a0.value.map Dp) .none,.list (a0.args.map Ir) .none],[Ak 0,Ak 0,.val (.string (⟨#[]⟩:ByteArray)),.list ([]) .full,.list ([]) .full]] [(6,j.length,k),(5,i.length,l)] (Ed rec n a0 j i=some r)) ?_ ?_
  ·intro K24 z
   refine rg [1,2,4,5,7,8] hs ?_
   apply As
   refine AP (fun m e st=>∃ (d:List Vl) (b:List Ex) (u:Int) (f:Ev.Own) (c:Ev.Own),Ck e st B Rw L [(1,true,Ak a1),(2,true,.box B.length 0),(4,true,.box (B.length+1) 0),(5,true,.list (d.map Dp) f),(7,true,.list (b.map Ir) c),(8,true,Ak u)] [[Ak a0.op,Ak a0.int,.val (.string (a0.text.extract 0 ((if 60<(a0.text.size:Int) then 60 else (a0.text.size:Int))).toNat)),.list (a0.value.map Dp) .none,.list (a0.args.map Ir) .none],[Ak 0,Ak 0,.val (.string (⟨#[]⟩:ByteArray)),.list ([]) .full,.list ([]) .full]] [(6,d.length,f),(5,b.length,c)] (Ce rec n a0 a1 m d b u=some r)) n ⟨p,([]),0,g,.full,([]),Rk6,ef hs,ef hs,Owns.of_eq (((w).full 5 0).swap (List.Perm.swap _ _ _)) EF,h⟩ ?_
   rintro ml26 e st ⟨d,b,u,f,c,Xl26,Rl26,rfl,rfl,w,h⟩ Ul26 Vl26
   cases ml26 with
   | zero=>cases h
   | succ ml26 =>
   rw [Ce] at h
   have E:=w.unders
   simp only [List.mem_cons,List.not_mem_nil,or_false,forall_eq_or_imp,forall_eq] at E
   obtain ⟨J,H⟩:=E
   refine td D x y o w ?_
   apply Am;intro K27 C
   refine rg [1,2,4,5,7,8,49] hs ?_
   refine GB h hs ?_ ?_<;>intro hs h
   rotate_left
   ·refine sx [2,4,5,7] hs z ?_
    exact ⟨d,b,f,c,([]),Rl26,ef hs,ef hs,Owns.of_eq (((w).swap (List.Perm.swap _ _ _)).swap (List.Perm.swap _ _ _)) EF,h⟩
   exact go (tg (a:=([1,2,4,5,7,8],[1,2,4,5,7,8],[1,2,4,5,7,8],()))) h hs D x y o w (q2 (ae Za5 S5) ih) (q2 C (fun e s=>Vl26 ml26 e s (Nat.lt_succ_self _)))
  ·clear h;rintro e st ⟨j,i,k,l,Xk23,Rk23,rfl,rfl,w,h⟩
   rw [Ed] at h
   exact go (tg (a:=([2,4],[4],()))) h hs D x y o w trivial trivial
theorem Ia (w0:World):∀ n:Nat,GA w0 (Bn n)
 | 0=>fun _ _ _ _ _ _ h=>(nomatch h)
 | n+1=>La w0 (Bn n) (Ia w0 n) n
def GL (n:Nat)  (b2_k4_0:List (ByteArray × Ex)):Option ((List (ByteArray × Ex))) :=
 some (b2_k4_0)
def EO (n:Nat) (y:List (ByteArray × Ex)):Nat→Int→(List (ByteArray × Ex))→Option ((List (ByteArray × Ex)))
 | 0,_,_=>none
 | m+1,b,b2_l7_0 =>
  if (decide (b<(y.length:Int)))&&(decide (b<8)) then
   (GM y b).bind fun h =>
   if 0≤0∧0≤(if 60<(h.1.size:Int) then 60 else (h.1.size:Int))∧(if 60<(h.1.size:Int) then 60 else (h.1.size:Int))≤(h.1.size:Int) then
    (Bn n h.2 4).bind fun q =>
    if (b2_l7_0.length+1)*96≤140737488355328∧b2_l7_0.length+1≤4611686018427387904 then
     if Bj (b+1) then
      (EO n y m) (b+1) (b2_l7_0++([(h.1.extract 0 ((if 60<(h.1.size:Int) then 60 else (h.1.size:Int))).toNat,q)]))
     else none
    else none
   else none
  else
   GL n b2_l7_0
def Ft (n:Nat) (b:List (ByteArray × Ex)):Option ((List (ByteArray × Ex))) :=
 EO n b n 0 ([])
theorem GN (w0:World) (n:Nat) (B:Aq) (Rw:Au) (L:Av) (a0:List (ByteArray × Ex)) (r:(List (ByteArray × Ex))) (h:Ft n a0=some r) :
  ACalls Tryz.prog w0 19 [.agg ([.list (a0.map BX) .none])] ⟨B,Rw,L⟩ fun x st=>x = .agg ([.list (r.map BX) .none])∧st=⟨B,Rw,L⟩:=by
 rw [Ft] at h
 refine hd [.cell 2 30] Tryz.func19 Tryz.ntmps19 fun M0 W0 p k l i q j hs=>?_
 simp only [AM]
 refine rg [1,2] hs ?_
 refine rg [1,2,3] hs ?_
 refine A2 (fun e st=>∃ (b:List (ByteArray × Ex)) (d:Ev.Own),Ck e st B Rw L [(2,true,.box (B.length+1) 0),(3,true,.box (B.length+2) 0)] [[.list (a0.map BX) .none],[.list ([]) .full],[.list (b.map BX) d]] [(6,b.length,d)] (GL n b=some r)) ?_ ?_
 ·intro K5 o
  refine rg [1,2,3,4] hs ?_
  apply As
  refine AP (fun m e st=>∃ (g:Int) (c:List (ByteArray × Ex)) (f:Ev.Own),Ck e st B Rw L [(1,true,.box B.length 0),(2,true,.box (B.length+1) 0),(3,true,.box (B.length+2) 0),(4,true,Ak g)] [[.list (a0.map BX) .none],[.list ([]) .full],[.list (c.map BX) f]] [(6,c.length,f)] (EO n a0 m g c=some r)) n ⟨0,([]),.full,([]),Rw,ef hs,ef hs,Owns.of_eq ((j).full 6 0) EF,h⟩ ?_
  rintro ml7 e st ⟨g,c,f,Xl7,Rl7,rfl,rfl,j,h⟩ Ul7 Vl7
  cases ml7 with
  | zero=>cases h
  | succ ml7 =>
  rw [EO] at h
  exact go (tg (a:=([1,2,3,4,13],([1,2,3,4],[26,1,2,3,4],[1,2,3,4],()),[2,3],()))) h hs p k l i j (q2 (ae YA SY) (Ia w0 n)) (q2 o (fun e s=>Vl7 ml7 e s (Nat.lt_succ_self _)))
 ·clear h;rintro e st ⟨b,d,Xk4,Rk4,rfl,rfl,j,h⟩
  rw [GL] at h
  exact go (tg (a:=([2],()))) h hs p k l i j trivial trivial
section
variable {P:Program} {w0:World} {n:Nat} {l:List Oper} {ef dn:List Nat} {F:St→Prop} {T:Env→St→Prop} {k:Nat} {ev:Env} {s:St}
theorem gm1 {i:Nat} (_:Tg i) (hr:Jd l ef dn=[i]) (hn:(ef.all fun i=>dn.contains i)=false) (hF:F s) (h:∃ o,l[i]? = some o∧o.guard=none∧dstOk n o.dst∧∃ Post:AV→St→Prop,Qr P w0 (AA true l o ev) s o Post∧∀ v s',Post v s'→Ev.Good P w0 n l ef F T k (i::dn) (C0 ev o.dst true v) s'):Ev.Good P w0 n l ef F T (k+1) dn ev s :=
 Ev.Good.mk [i] hr hF (fun q=>by rw [hn] at q;cases q) (fun j hj=>by obtain rfl:=List.mem_singleton.1 hj;exact h)
theorem gm0 {L:List Nat} {nb:Nat} {e2:Env} (_:Tg L) (hr:Jd l ef dn=[]) (hF:F s) (hT:Do L ev=e2):Ev.Good P w0 n l ef F (fun ev s'=>Conv w0 n nb ev s' e2 s) (k+1) dn ev s :=
 Ev.Good.mk [] hr hF (fun _=>QM L hT) (fun i hi=>by cases hi)
theorem stI {o:Oper} {v:AV} {s':St} (h:GY P w0 ev s o v s'):GY P w0 ev s o v s':=h
theorem kpI {L:List Nat} {e e':Env} (h:Do L e=e'):Do L e=e':=h
end
theorem gd {T F p:Prop} (tL:T) (hs:F) (k:T→F→p:=by
  intro tL hs
  repeat' first
    | ((with_reducible refine gm1 (tgh tL) kr rfl ?_ ?_)<;>replace tL:=tgt tL)
    | (with_reducible apply gm0 tL kr)
    | (apply MU rfl rfl ev
       case' hs=>((simp +decide only [go_sem,Nat.reduceAdd,GY,hs]);(repeat' apply Ad)<;>first | rfl | exact cl)
       case' hk=>simp +decide only [go_sem,Nat.reduceAdd,hs])
    | ((with_reducible refine stI ?_);simp +decide only [go_sem,Nat.reduceAdd,GY,hs];(repeat' apply Ad)<;>first | rfl | exact cl)
    | ((with_reducible apply kpI);first | (simp +decide only [go_sem,Nat.reduceAdd,hs];done) | (simp +decide only [go_sem,Nat.reduceAdd,hs];rfl) | (simp +decide only [go_sem,Nat.reduceAdd,and_self,imp_self,hs];done) | (simp +decide only [go_sem,Nat.reduceAdd,and_self,imp_self,hs];rfl))
    | exact ⟨[],_,rfl⟩
    | exact ⟨[],_,_,rfl⟩
    | exact ⟨[],_,_,_,rfl⟩
    | exact ⟨_,_,rfl⟩
    | exact ⟨_,_,_,rfl⟩
    | exact ⟨[],_,by simp only [List.append_nil,List.nil_append]⟩
    | exact ⟨[],_,_,by simp only [List.append_nil,List.nil_append]⟩
    | exact ⟨_,_,by simp only [List.append_nil,List.nil_append]⟩):p:=k tL hs
def EJ (rec:Ty→Int→Option Ty) (n:Nat) (h:(List ByteArray)→(List Ty)→(List (Int × ByteArray × Int × Ty × List Vl))→Int→Option Ty) (b:Int) (q:List ByteArray) (x6_k47:List Ty) (y:List (Int × ByteArray × Int × Ty × List Vl)):Option Ty :=
 if Bj (b+1) then
  h q x6_k47 y (b+1)
 else none
def EM (rec:Ty→Int→Option Ty) (n:Nat) (y:Ty) (b:List ByteArray) (h:List Ty) (q:List (Int × ByteArray × Int × Ty × List Vl)):Option Ty :=
 some (Ty.mk y.kind y.min y.max y.scale b h q)
def Dx (rec:Ty→Int→Option Ty) (n:Nat) (q:(List ByteArray)→(List Ty)→(List (Int × ByteArray × Int × Ty × List Vl))→Int→Option Ty) (a1:Int) (y:Int) (b:Int × ByteArray × Int × Ty × List Vl) (x5_k53:List ByteArray) (x6_k53:List Ty) (h:List (Int × ByteArray × Int × Ty × List Vl)) (x12_k53:List Vl):Option Ty :=
 if 0≤0∧0≤(if 40<(b.2.1.size:Int) then 40 else (b.2.1.size:Int))∧(if 40<(b.2.1.size:Int) then 40 else (b.2.1.size:Int))≤(b.2.1.size:Int) then
  if Bj (a1-1) then
   (rec b.2.2.2.1 (a1-1)).bind fun y71 =>
   if (h.length+1)*160≤140737488355328∧h.length+1≤4611686018427387904 then
    EJ rec n q y x5_k53 x6_k53 (h++([(b.1,b.2.1.extract 0 ((if 40<(b.2.1.size:Int) then 40 else (b.2.1.size:Int))).toNat,b.2.2.1,y71,x12_k53)]))
   else none
  else none
 else none
def BP (rec:Ty→Int→Option Ty) (n:Nat) (q:(List ByteArray)→(List Ty)→(List (Int × ByteArray × Int × Ty × List Vl))→Int→Option Ty) (a1:Int) (y:Int) (x50:Int × ByteArray × Int × Ty × List Vl):Nat→(List ByteArray)→(List Ty)→(List (Int × ByteArray × Int × Ty × List Vl))→(List Vl)→Int→Option Ty
 | 0,_,_,_,_,_=>none
 | m+1,x5_l56,x6_l56,x7_l56,h,b =>
  if (decide (b<(x50.2.2.2.2.length:Int)))&&(decide (b<2)) then
   (GM x50.2.2.2.2 b).bind fun x61 =>
   (AB n x61 3).bind fun y62 =>
   if (h.length+1)*88≤140737488355328∧h.length+1≤4611686018427387904 then
    if Bj (b+1) then
     (BP rec n q a1 y x50 m) x5_l56 x6_l56 x7_l56 (h++([y62])) (b+1)
    else none
   else none
  else
   Dx rec n q a1 y x50 x5_l56 x6_l56 x7_l56 h
def A7 (rec:Ty→Int→Option Ty) (n:Nat) (a0:Ty) (a1:Int):Nat→(List ByteArray)→(List Ty)→(List (Int × ByteArray × Int × Ty × List Vl))→Int→Option Ty
 | 0,_,_,_,_=>none
 | m+1,y,q,h,b =>
  if ((decide (b<(a0.fields.length:Int)))&&(decide (b<6)))&&(decide (1<a1)) then
   (GM a0.fields b).bind fun x50 =>
   BP rec n (A7 rec n a0 a1 m) a1 b x50 n y q h ([]) 0
  else
   EM rec n a0 y q h
def EQ (rec:Ty→Int→Option Ty) (n:Nat) (y:Ty) (q:Int) (b:List ByteArray) (h:List Ty):Option Ty :=
 A7 rec n y q n b h ([]) 0
def CS (rec:Ty→Int→Option Ty) (n:Nat) (a0:Ty) (y:Int):Nat→(List ByteArray)→(List Ty)→Int→Option Ty
 | 0,_,_,_=>none
 | m+1,q,h,b =>
  if ((decide (b<(a0.elem.length:Int)))&&(decide (b<2)))&&(decide (1<y)) then
   (GM a0.elem b).bind fun x30 =>
   if Bj (y-1) then
    (rec x30 (y-1)).bind fun y32 =>
    if (h.length+1)*104≤140737488355328∧h.length+1≤4611686018427387904 then
     if Bj (b+1) then
      (CS rec n a0 y m) q (h++([y32])) (b+1)
     else none
    else none
   else none
  else
   EQ rec n a0 y q h
def Fe (rec:Ty→Int→Option Ty) (n:Nat) (h:Ty) (q:Int) (b:List ByteArray):Option Ty :=
 CS rec n h q n b ([]) 0
def C7 (rec:Ty→Int→Option Ty) (n:Nat) (y:Ty) (a1:Int):Nat→(List ByteArray)→Int→Option Ty
 | 0,_,_=>none
 | m+1,h,b =>
  if (decide (b<(y.words.length:Int)))&&(decide (b<6)) then
   (GM y.words b).bind fun q =>
   if 0≤0∧0≤(if 40<(q.size:Int) then 40 else (q.size:Int))∧(if 40<(q.size:Int) then 40 else (q.size:Int))≤(q.size:Int) then
    if (h.length+1)*16≤140737488355328∧h.length+1≤4611686018427387904 then
     if Bj (b+1) then
      (C7 rec n y a1 m) (h++([q.extract 0 ((if 40<(q.size:Int) then 40 else (q.size:Int))).toNat])) (b+1)
     else none
    else none
   else none
  else
   Fe rec n y a1 h
def Ez (rec:Ty→Int→Option Ty) (n:Nat) (h:Ty) (b:Int):Option Ty :=
 C7 rec n h b n ([]) 0
def Bl:Nat→Ty→Int→Option Ty
 | 0,_,_=>none
 | n+1,h,b=>Ez (Bl n) n h b
def G3 (w0:World) (F:Ty→Int→Option Ty):Prop:=∀ (B:Aq) (Rw:Au) (L:Av) (h:Ty) (b:Int) (r:Ty),F h b=some r→ACalls Tryz.prog w0 20 [.agg (h.cs),Ak b] ⟨B,Rw,L⟩ fun x st=>x = .agg (r.cs)∧st=⟨B,Rw,L⟩
theorem LX (w0:World) (rec:Ty→Int→Option Ty) (ih:G3 w0 rec) (n:Nat):G3 w0 (Ez rec n):=by
 intro B Rw L a0 a1 r h
 rw [Ez] at h
 refine hd [.cell 4 26] Tryz.func20 Tryz.ntmps20 fun M0 W0 hN a3 a4 j hu i hs=>?_
 simp only [AM]
 refine rg [1,2,4] hs ?_
 refine rg [1,2,4,5] hs ?_
 refine rg [1,2,4,5,6] hs ?_
 refine rg [1,2,4,5,6,7] hs ?_
 refine A2 (fun e st=>∃ (ay:List ByteArray) (aq:Ev.Own),Ck e st B Rw L [(1,true,Ak a1),(2,true,.box B.length 0),(4,true,.box (B.length+1) 0),(5,true,.list (ay.map JO) aq),(6,true,.list ([]) .full),(7,true,.list ([]) .full)] [a0.cs,[Ak 0,Ak 0,Ak 0,Ak 0,.list ([]) .full,.list ([]) .full,.list ([]) .full]] [(1,ay.length,aq)] (Fe rec n a0 a1 ay=some r)) ?_ ?_
 ·intro K7 b0
  refine rg [1,2,4,5,6,7,8] hs ?_
  apply As
  refine AP (fun m e st=>∃ (a7:List ByteArray) (a9:Int) (a6:Ev.Own),Ck e st B Rw L [(1,true,Ak a1),(2,true,.box B.length 0),(4,true,.box (B.length+1) 0),(5,true,.list (a7.map JO) a6),(6,true,.list ([]) .full),(7,true,.list ([]) .full),(8,true,Ak a9)] [a0.cs,[Ak 0,Ak 0,Ak 0,Ak 0,.list ([]) .full,.list ([]) .full,.list ([]) .full]] [(1,a7.length,a6)] (C7 rec n a0 a1 m a7 a9=some r)) n ⟨([]),0,.full,([]),Rw,ef hs,ef hs,Owns.of_eq ((i).full 1 0) EF,h⟩ ?_
  rintro ml9 e st ⟨a7,a9,a6,Xl9,Rl9,rfl,rfl,i,h⟩ Ul9 Vl9
  cases ml9 with
  | zero=>cases h
  | succ ml9 =>
  rw [C7] at h
  exact go (tg (a:=([1,2,4,5,6,7,8,22],([1,2,4,5,6,7,8],[15,1,2,4,5,6,7,8],[1,2,4,5,6,7,8],()),[1,2,4,5,6,7],()))) h hs hN a3 a4 j i (q1 (ae ZgG Zdn)) (q2 b0 (fun e s=>Vl9 ml9 e s (Nat.lt_succ_self _)))
 ·clear h;rintro e st ⟨ay,aq,Xk6,Rk6,rfl,rfl,i,h⟩
  rw [Fe] at h
  have hU:=i.unders
  simp only [List.mem_cons,List.not_mem_nil,or_false,forall_eq_or_imp,forall_eq] at hU
  refine td hN a3 a4 j i ?_
  refine A2 (fun e st=>∃ (ah:List ByteArray) (ab:List Ty) (am:Ev.Own) (Y:Ev.Own),Ck e st B Rw L [(1,true,Ak a1),(2,true,.box B.length 0),(4,true,.box (B.length+1) 0),(5,true,.list (ah.map JO) am),(6,true,.list (ab.map Gx) Y),(7,true,.list ([]) .full)] [a0.cs,[Ak 0,Ak 0,Ak 0,Ak 0,.list ([]) .full,.list ([]) .full,.list ([]) .full]] [(1,ah.length,am),(7,ab.length,Y)] (EQ rec n a0 a1 ah ab=some r)) ?_ ?_
  ·intro K23 bt
   refine rg [1,2,4,5,6,7,9] hs ?_
   apply As
   refine AP (fun m e st=>∃ (V:List ByteArray) (Q:List Ty) (a8:Int) (U:Ev.Own) (Z:Ev.Own),Ck e st B Rw L [(1,true,Ak a1),(2,true,.box B.length 0),(4,true,.box (B.length+1) 0),(5,true,.list (V.map JO) U),(6,true,.list (Q.map Gx) Z),(7,true,.list ([]) .full),(9,true,Ak a8)] [a0.cs,[Ak 0,Ak 0,Ak 0,Ak 0,.list ([]) .full,.list ([]) .full,.list ([]) .full]] [(1,V.length,U),(7,Q.length,Z)] (CS rec n a0 a1 m V Q a8=some r)) n ⟨ay,([]),0,aq,.full,([]),Rk6,ef hs,ef hs,Owns.of_eq (((i).full 7 0).swap (List.Perm.swap _ _ _)) EF,h⟩ ?_
   rintro ml25 e st ⟨V,Q,a8,U,Z,Xl25,Rl25,rfl,rfl,i,h⟩ Ul25 Vl25
   cases ml25 with
   | zero=>cases h
   | succ ml25 =>
   rw [CS] at h
   have hU:=i.unders
   simp only [List.mem_cons,List.not_mem_nil,or_false,forall_eq_or_imp,forall_eq] at hU
   obtain ⟨bb,ba⟩:=hU
   refine td hN a3 a4 j i ?_
   apply Am;intro K26 bq
   refine rg [1,2,4,5,6,7,9,53] hs ?_
   refine GB h hs ?_ ?_<;>intro hs h
   rotate_left
   ·refine sx [1,2,4,5,6,7] hs bt ?_
    exact ⟨V,Q,U,Z,([]),Rl25,ef hs,ef hs,Owns.of_eq (((i).swap (List.Perm.swap _ _ _)).swap (List.Perm.swap _ _ _)) EF,h⟩
   exact go (tg (a:=([1,2,4,5,6,7,9],[1,2,4,5,6,7,9],[1,2,4,5,6,7,9],()))) h hs hN a3 a4 j i (q2 (ae Za2 S7) ih) (q2 bq (fun e s=>Vl25 ml25 e s (Nat.lt_succ_self _)))
  ·clear h;rintro e st ⟨ah,ab,am,Y,Xk22,Rk22,rfl,rfl,i,h⟩
   rw [EQ] at h
   have hU:=i.unders
   simp only [List.mem_cons,List.not_mem_nil,or_false,forall_eq_or_imp,forall_eq] at hU
   obtain ⟨bb,ba⟩:=hU
   refine td hN a3 a4 j i ?_
   refine A2 (fun e st=>∃ (ar:List ByteArray) (av:List Ty) (au:List (Int × ByteArray × Int × Ty × List Vl)) (az:Ev.Own) (a2:Ev.Own) (ax:Ev.Own),Ck e st B Rw L [(2,true,.box B.length 0),(4,true,.box (B.length+1) 0),(5,true,.list (ar.map JO) az),(6,true,.list (av.map Gx) a2),(7,true,.list (au.map GE) ax)] [a0.cs,[Ak 0,Ak 0,Ak 0,Ak 0,.list ([]) .full,.list ([]) .full,.list ([]) .full]] [(1,ar.length,az),(7,av.length,a2),(11,au.length,ax)] (EM rec n a0 ar av au=some r)) ?_ ?_
   ·intro K40 bu
    refine rg [1,2,4,5,6,7,10] hs ?_
    apply As
    refine AP (fun m e st=>∃ (J:List ByteArray) (D:List Ty) (N:List (Int × ByteArray × Int × Ty × List Vl)) (c:Int) (v:Ev.Own) (o:Ev.Own) (p:Ev.Own),Ck e st B Rw L [(1,true,Ak a1),(2,true,.box B.length 0),(4,true,.box (B.length+1) 0),(5,true,.list (J.map JO) v),(6,true,.list (D.map Gx) o),(7,true,.list (N.map GE) p),(10,true,Ak c)] [a0.cs,[Ak 0,Ak 0,Ak 0,Ak 0,.list ([]) .full,.list ([]) .full,.list ([]) .full]] [(1,J.length,v),(7,D.length,o),(11,N.length,p)] (A7 rec n a0 a1 m J D N c=some r)) n ⟨ah,ab,([]),0,am,Y,.full,([]),Rk22,ef hs,ef hs,Owns.of_eq ((((i).full 11 0).swap ((List.Perm.cons _ (List.Perm.swap _ _ _)).trans (List.Perm.swap _ _ _))).swap ((List.Perm.cons _ (List.Perm.swap _ _ _)).trans (List.Perm.swap _ _ _))) EF,h⟩ ?_
    rintro ml42 e st ⟨J,D,N,c,v,o,p,Xl42,Rl42,rfl,rfl,i,h⟩ Ul42 Vl42
    cases ml42 with
    | zero=>cases h
    | succ ml42 =>
    rw [A7] at h
    have hU:=i.unders
    simp only [List.mem_cons,List.not_mem_nil,or_false,forall_eq_or_imp,forall_eq] at hU
    obtain ⟨bb,ba,bn⟩:=hU
    refine td hN a3 a4 j i ?_
    apply Am;intro K43 bk
    refine rg [1,2,4,5,6,7,10,79] hs ?_
    refine GB h hs ?_ ?_<;>intro hs h
    rotate_left
    ·have a5:=hs.1
     refine sx [2,4,5,6,7] hs bu ?_
     exact ⟨J,D,N,v,o,p,([]),Rl42,ef hs,ef hs,Owns.of_eq ((((i).swap ((List.Perm.cons _ (List.Perm.swap _ _ _)).trans (List.Perm.swap _ _ _))).swap ((List.Perm.cons _ (List.Perm.swap _ _ _)).trans (List.Perm.swap _ _ _))).swap ((List.Perm.cons _ (List.Perm.swap _ _ _)).trans (List.Perm.swap _ _ _))) EF,h⟩
    have a5:=hs.1
    refine sk [1,2,4,5,6,7,10] hs bk ?_
    clear bk
    refine A2 (fun e st=>∃ (ag:List ByteArray) (ak:List Ty) (aj:List (Int × ByteArray × Int × Ty × List Vl)) (ai:Ev.Own) (aa:Ev.Own) (af:Ev.Own),Ck e st B Rw L [(1,true,Ak a1),(2,true,.box B.length 0),(4,true,.box (B.length+1) 0),(5,true,.list (ag.map JO) ai),(6,true,.list (ak.map Gx) aa),(7,true,.list (aj.map GE) af),(10,true,Ak c)] [a0.cs,[Ak 0,Ak 0,Ak 0,Ak 0,.list ([]) .full,.list ([]) .full,.list ([]) .full]] [(1,ag.length,ai),(7,ak.length,aa),(11,aj.length,af)] (EJ rec n (A7 rec n a0 a1 ml42) c ag ak aj=some r)) ?_ ?_
    ·intro K48 bp
     apply As
     obtain ⟨b,bo,h⟩:=bind_some h
     obtain ⟨b4,b3,bm⟩:=EZ bo
     have O:=EX (f:=GE) bm
     have hs:=Ad O hs
     refine rg [1,2,4,5,6,7,10,11] hs ?_
     refine rg [1,2,4,5,6,7,10,11,12] hs ?_
     refine A2 (fun e st=>∃ (H:List ByteArray) (C:List Ty) (l:List (Int × ByteArray × Int × Ty × List Vl)) (d:List Vl) (u:Ev.Own) (t:Ev.Own) (aw:Ev.Own) (k:Ev.Own),Ck e st B Rw L [(1,true,Ak a1),(2,true,.box B.length 0),(4,true,.box (B.length+1) 0),(5,true,.list (H.map JO) u),(6,true,.list (C.map Gx) t),(7,true,.list (l.map GE) aw),(10,true,Ak c),(11,true,.box (B.length+2) 0),(12,true,.list (d.map Dp) k)] [a0.cs,[Ak 0,Ak 0,Ak 0,Ak 0,.list ([]) .full,.list ([]) .full,.list ([]) .full],Ak b.1::(.val (.string b.2.1)::(Ak b.2.2.1::((b.2.2.2.1.cs)++([.list (b.2.2.2.2.map Dp) .none]))))] [(1,H.length,u),(7,C.length,t),(11,l.length,aw),(6,d.length,k)] (Dx rec n (A7 rec n a0 a1 ml42) a1 c b H C l d=some r)) ?_ ?_
     ·intro K54 br
      refine rg [1,2,4,5,6,7,10,11,12,13] hs ?_
      apply As
      refine AP (fun m e st=>∃ (G:List ByteArray) (F:List Ty) (K:List (Int × ByteArray × Int × Ty × List Vl)) (g:List Vl) (ad:Int) (z:Ev.Own) (q:Ev.Own) (w:Ev.Own) (E:Ev.Own),Ck e st B Rw L [(1,true,Ak a1),(2,true,.box B.length 0),(4,true,.box (B.length+1) 0),(5,true,.list (G.map JO) z),(6,true,.list (F.map Gx) q),(7,true,.list (K.map GE) w),(10,true,Ak c),(11,true,.box (B.length+2) 0),(12,true,.list (g.map Dp) E),(13,true,Ak ad)] [a0.cs,[Ak 0,Ak 0,Ak 0,Ak 0,.list ([]) .full,.list ([]) .full,.list ([]) .full],Ak b.1::(.val (.string b.2.1)::(Ak b.2.2.1::((b.2.2.2.1.cs)++([.list (b.2.2.2.2.map Dp) .none]))))] [(1,G.length,z),(7,F.length,q),(11,K.length,w),(6,g.length,E)] (BP rec n (A7 rec n a0 a1 ml42) a1 c b m G F K g ad=some r)) n ⟨J,D,N,([]),0,v,o,p,.full,([]),Rl42,ef hs,ef hs,Owns.of_eq (((((i).full 6 0).swap ((List.Perm.cons _ ((List.Perm.cons _ (List.Perm.swap _ _ _)).trans (List.Perm.swap _ _ _))).trans (List.Perm.swap _ _ _))).swap ((List.Perm.cons _ ((List.Perm.cons _ (List.Perm.swap _ _ _)).trans (List.Perm.swap _ _ _))).trans (List.Perm.swap _ _ _))).swap ((List.Perm.cons _ ((List.Perm.cons _ (List.Perm.swap _ _ _)).trans (List.Perm.swap _ _ _))).trans (List.Perm.swap _ _ _))) EF,h⟩ ?_
      rintro ml56 e st ⟨G,F,K,g,ad,z,q,w,E,Xl56,Rl56,rfl,rfl,i,h⟩ Ul56 Vl56
      cases ml56 with
      | zero=>cases h
      | succ ml56 =>
      rw [BP] at h
      have hU:=i.unders
      simp only [List.mem_cons,List.not_mem_nil,or_false,forall_eq_or_imp,forall_eq] at hU
      obtain ⟨bb,ba,bn,b2⟩:=hU
      refine td hN a3 a4 j i ?_
      apply Am;intro K57 be
      refine rg [1,2,4,5,6,7,10,11,12,13,95] hs ?_
      refine GB h hs ?_ ?_<;>intro hs h
      rotate_left
      ·refine sx [1,2,4,5,6,7,10,11,12] hs br ?_
       exact ⟨G,F,K,g,z,q,w,E,([]),Rl56,ef hs,ef hs,Owns.of_eq (((((i).swap ((List.Perm.cons _ ((List.Perm.cons _ (List.Perm.swap _ _ _)).trans (List.Perm.swap _ _ _))).trans (List.Perm.swap _ _ _))).swap ((List.Perm.cons _ ((List.Perm.cons _ (List.Perm.swap _ _ _)).trans (List.Perm.swap _ _ _))).trans (List.Perm.swap _ _ _))).swap ((List.Perm.cons _ ((List.Perm.cons _ (List.Perm.swap _ _ _)).trans (List.Perm.swap _ _ _))).trans (List.Perm.swap _ _ _))).swap ((List.Perm.cons _ ((List.Perm.cons _ (List.Perm.swap _ _ _)).trans (List.Perm.swap _ _ _))).trans (List.Perm.swap _ _ _))) EF,h⟩
      refine sk [1,2,4,5,6,7,10,11,12,13] hs be ?_
      clear be
      apply Am;intro K60 bh
      apply As
      obtain ⟨bz,b5,bw,bl,h⟩:=ix Dp h
      obtain ⟨bx,bv,h⟩:=bind_some h
      obtain ⟨bf,h⟩:=An h
      have i:=i.swap ((List.Perm.cons _ ((List.Perm.cons _ (List.Perm.swap _ _ _)).trans (List.Perm.swap _ _ _))).trans (List.Perm.swap _ _ _))
      obtain ⟨b1,bc,i,ap⟩:=i.append (P:=Tryz.prog) Py (by rw [Ji];rfl) (by decide) 1 bf.1 bf.2
      replace ap:=fun (ys:List AV) B L o2=>ap (g.map Dp) ys B L o2 EF
      replace ap:=fun (y:AV) B L o2=>ap [y] B L o2 EF ev
      try simp only [List.mem_singleton,List.mem_cons,List.not_mem_nil,or_false,forall_eq_or_imp,forall_eq,List.map_append,List.map_cons,List.map_nil,HQ,HI,HH,HU,HF,HS,Gf,F9,HT,EC,Ep,Gg,Gi,Gh,HL,Ge,HG] at ap
      have hs:=Ad bl hs
      have hs:=Ad ap hs
      refine rk 2 [1,2,4,5,6,7,10,11,12,13] hs ?_
      refine Az _ (BS w0 n _ _ _ bz 3 _ bv) (hv hs) ?_
      refine ne hs bh ?_
      clear bh
      obtain ⟨b8,h⟩:=An h
      refine rl [1,2,4,5,6,7,10,11,12,13] hs (fun e s=>Vl56 ml56 e s (Nat.lt_succ_self _)) ?_
      exact ⟨G,F,K,(g++([bx])),(ad+1),z,q,w,b1,([]),bc,ef hs,ef hs,Owns.of_eq ((((i).swap ((List.Perm.cons _ ((List.Perm.cons _ (List.Perm.swap _ _ _)).trans (List.Perm.swap _ _ _))).trans (List.Perm.swap _ _ _))).swap ((List.Perm.cons _ ((List.Perm.cons _ (List.Perm.swap _ _ _)).trans (List.Perm.swap _ _ _))).trans (List.Perm.swap _ _ _))).swap ((List.Perm.cons _ ((List.Perm.cons _ (List.Perm.swap _ _ _)).trans (List.Perm.swap _ _ _))).trans (List.Perm.swap _ _ _))) EF,h⟩
     ·clear h;rintro e st ⟨H,C,l,d,u,t,aw,k,Xk53,Rk53,rfl,rfl,i,h⟩
      rw [Dx] at h
      have hU:=i.unders
      simp only [List.mem_cons,List.not_mem_nil,or_false,forall_eq_or_imp,forall_eq] at hU
      obtain ⟨bb,ba,bn,b2⟩:=hU
      refine td hN a3 a4 j i ?_
      apply Am;intro K68 bi
      obtain ⟨b9,h⟩:=An h
      obtain ⟨b6,h⟩:=An h
      obtain ⟨x,bg,h⟩:=bind_some h
      apply Jw Pz [14,16,18] [1,3,8] [1,2,4,5,6,7,10,11] kr (fun s=>∃ (X:Aq) (rows:Au) (c2:List AV),s=⟨B++([a0.cs,[Ak 0,Ak 0,Ak 0,Ak 0,.list ([]) .full,.list ([]) .full,.list ([]) .full],c2]++X),rows,L⟩) 4 (B.length+3)
      ·simp +decide only [go_sem,Nat.reduceAdd]
      ·refine ⟨2,?_⟩
       rw [Ao];simp +decide only [go_sem,Nat.reduceAdd,BA,a5,O,Ty.cs_eqs b.2.2.2.1,Ty.cs_eqs x]
       have hs:=Ad (Ty.cs_eqs b.2.2.2.1) hs
       have hs:=Ad (Ty.cs_eqs x) hs
       (repeat' apply Ad)<;>first | refine Az _ (ih _ _ _ b.2.2.2.1 (a1-1) _ bg) (hv hs) ?_ | exact cl
       rw [Ao];simp +decide only [go_sem,Nat.reduceAdd,a5,O,Ty.cs_eqs b.2.2.2.1,Ty.cs_eqs x]
       (repeat' apply Ad)<;>first | rfl | exact cl
      ·rintro s ⟨X,rows,c2,rfl⟩
       refine ⟨2,?_⟩
       rw [Ao];simp +decide only [go_sem,Nat.reduceAdd,BA,List.append_eq,List.cons_append,List.nil_append,a5,O,Ty.cs_eqs b.2.2.2.1,Ty.cs_eqs x]
       have hs:=Ad (Ty.cs_eqs b.2.2.2.1) hs
       have hs:=Ad (Ty.cs_eqs x) hs
       (repeat' apply Ad)<;>first | refine Az _ (ih _ _ _ b.2.2.2.1 (a1-1) _ bg) (hv hs) ?_ | exact cl
       rw [Ao];simp +decide only [go_sem,Nat.reduceAdd,a5,O,Ty.cs_eqs b.2.2.2.1,Ty.cs_eqs x]
       (repeat' apply Ad)<;>first | rfl | ((repeat (first | exact .nil | refine .cons (ef hs) ?_));done) | exact cl
      ·exact gd (tg (a:=(14,16,18,[1,2,4,5,6,7,10,11]))) (Ad (Ty.cs_eqs x) (Ad (Ty.cs_eqs b.2.2.2.1) (Ad O hs)))
      simp +decide only [go_sem,Nat.reduceAdd,a5,O,Ty.cs_eqs b.2.2.2.1,Ty.cs_eqs x]
      (repeat' apply Ad)<;>first | refine bi _ _ ?_ | exact cl
      clear bi
      obtain ⟨bj,h⟩:=An h
      have i:=i.swap ((List.Perm.cons _ (List.Perm.swap _ _ _)).trans (List.Perm.swap _ _ _))
      obtain ⟨bs,bd,i,ao⟩:=i.append (P:=Tryz.prog) Zgi (by rw [Ye];rfl) (by decide) 1 bj.1 bj.2
      replace ao:=fun (ys:List AV) B L o2=>ao (l.map GE) ys B L o2 EF
      replace ao:=fun (y:AV) B L o2=>ao [y] B L o2 EF ev
      try simp only [List.mem_singleton,List.mem_cons,List.not_mem_nil,or_false,forall_eq_or_imp,forall_eq,List.map_append,List.map_cons,List.map_nil,HQ,HI,HH,HU,HF,HS,Gf,F9,HT,EC,Ep,Gg,Gi,Gh,HL,Ge,HG] at ao
      have hs:=Ad (Ty.cs_eqs b.2.2.2.1) hs
      have hs:=Ad (Ty.cs_eqs x) hs
      have hs:=Ad ao hs
      refine rl [1,2,4,5,6,7,10] hs bp ?_
      exact ⟨H,C,(l++([(b.1,b.2.1.extract 0 ((if 40<(b.2.1.size:Int) then 40 else (b.2.1.size:Int))).toNat,b.2.2.1,x,d)])),u,t,bs,([[Ak b.1,.val (.string (b.2.1.extract 0 ((if 40<(b.2.1.size:Int) then 40 else (b.2.1.size:Int))).toNat)),Ak b.2.2.1,Ak x.kind,Ak x.min,Ak x.max,Ak x.scale,.list (x.words.map JO) .none,.list (x.elem.map Gx) .none,.list (x.fields.map GE) .none,.list (d.map Dp) k]]),bd,ef hs,ef hs,Owns.of_eq ((((i).swap ((List.Perm.cons _ (List.Perm.swap _ _ _)).trans (List.Perm.swap _ _ _))).swap ((List.Perm.cons _ (List.Perm.swap _ _ _)).trans (List.Perm.swap _ _ _))).sub (List.sublist_append_left [(1,H.length,u),(7,C.length,t),(11,l.length+1,bs)] [(6,d.length,k)])) EF,h⟩
    ·clear h;rintro e st ⟨ag,ak,aj,ai,aa,af,Xk47,Rk47,rfl,rfl,i,h⟩
     rw [EJ] at h
     have hU:=i.unders
     simp only [List.mem_cons,List.not_mem_nil,or_false,forall_eq_or_imp,forall_eq] at hU
     obtain ⟨bb,ba,bn⟩:=hU
     refine td hN a3 a4 j i ?_
     obtain ⟨b7,h⟩:=An h
     refine rl [1,2,4,5,6,7,10] hs (fun e s=>Vl42 ml42 e s (Nat.lt_succ_self _)) ?_
     exact ⟨ag,ak,aj,(c+1),ai,aa,af,([]),Rk47,ef hs,ef hs,Owns.of_eq ((((i).swap ((List.Perm.cons _ (List.Perm.swap _ _ _)).trans (List.Perm.swap _ _ _))).swap ((List.Perm.cons _ (List.Perm.swap _ _ _)).trans (List.Perm.swap _ _ _))).swap ((List.Perm.cons _ (List.Perm.swap _ _ _)).trans (List.Perm.swap _ _ _))) EF,h⟩
   ·clear h;rintro e st ⟨ar,av,au,az,a2,ax,Xk39,Rk39,rfl,rfl,i,h⟩
    rw [EM] at h
    exact go (tg (a:=([2,4],[4],()))) h (Ad (Ty.cs_eqs a0) hs) hN a3 a4 j i trivial trivial
theorem E6 (w0:World):∀ n:Nat,G3 w0 (Bl n)
 | 0=>fun _ _ _ _ _ _ h=>(nomatch h)
 | n+1=>LX w0 (Bl n) (E6 w0 n) n
theorem Jg (b:ByteArray) {c:Int} (hc:0≤c):(0:Nat)≤0∧(0:Int)≤(if c<(b.size:Int) then c else (b.size:Int))∧(if c<(b.size:Int) then c else (b.size:Int))≤(b.size:Int):=by
 refine ⟨Nat.le_refl _,?_,?_⟩<;>split<;>omega
theorem Jl (b:ByteArray) {c:Int} (hc:0≤c):((b.extract 0 ((if c<(b.size:Int) then c else (b.size:Int))).toNat).size:Int)≤c:=by
 rw [ByteArray.size_extract];split<;>omega
theorem Ot:∀ (l:List Vl) (w:Vl),DV (l++[w])=DV l+w.size
 | [],w=>by simp [DV]
 | x::l,w=>by rw [List.cons_append,DV,Ot l w,DV];omega
theorem M9:∀ (l:List (ByteArray × Vl)) (w:ByteArray × Vl),Eu (l++[w])=Eu l+w.2.size
 | [],(a,w)=>by simp [Eu]
 | (a,x)::l,w=>by rw [List.cons_append,Eu,M9 l w,Eu];omega
theorem OM:∀ (l:List Ty) (w:Ty),GX (l++[w])=GX l+w.size
 | [],w=>by simp [GX]
 | x::l,w=>by rw [List.cons_append,GX,OM l w,GX];omega
theorem Nv:∀ (l:List TF) (w:TF),EV (l++[w])=EV l+w.2.2.2.1.size
 | [],(a,b,c,w,d)=>by simp [EV]
 | (a,b,c,x,d)::l,w=>by rw [List.cons_append,EV,Nv l w,EV];omega
theorem Dq {α:Type} {p:α→Prop} {l:List α} {x:α} (h:∀ y∈l,p y) (hx:p x):∀ y∈l++[x],p y:=by
 intro y hy
 rcases List.mem_append.1 hy with hy | hy
 ·exact h y hy
 ·rw [List.mem_singleton.1 hy];exact hx
theorem Dh {α:Type} (l:List α) (x:α):(l++[x]).length=l.length+1:=by simp
def szV:Nat→Nat
 | 0=>0
 | d+1=>1+12*szV d
theorem Zag (rec:Vl→Int→Option Vl) (n:Nat) (v:Vl) (a:Int) (K:Nat) (hI:Bj (a-1)) (hr:1<a→∀ x,∃ w,rec x (a-1)=some w∧w.size≤K∧w.ok) (l:List Vl) (hl:DV l≤6*K) (ho:∀ x∈l,x.ok) :
  ∀ (m k i:Nat) (f:List (ByteArray × Vl)),i+k=6→k<m→f.length=i→Eu f≤i*K→(∀ p∈f,p.1.size≤1048576∧p.2.ok)→∃ w,B7 rec n v a m l f (i:Int)=some w∧w.size≤1+12*K∧w.ok
 | 0,k,i,f,_,h,_,_,_=>absurd h (Nat.not_lt_zero _)
 | m+1,k,i,f,hi,hm,hf,hs,hp=>by
  rw [B7]
  by_cases c:(((decide ((i:Int)<(v.fields.length:Int)))&&(decide ((i:Int)<6)))&&(decide (1<a)))=true
  ·rw [Ah c]
   simp only [Bool.and_eq_true,decide_eq_true_eq] at c
   obtain ⟨⟨s,o⟩,j⟩:=c
   have b:i<v.fields.length:=by omega
   obtain ⟨w,e,r,g⟩:=hr j v.fields[i].2
   obtain ⟨k,rfl⟩:∃ q,k=q+1:=⟨k-1,by omega⟩
   rw [AW b,Ae,Ah (Jg _ (by decide)),Ah hI,e,Ae,Ab,Ah (AY (by omega))]
   have d:=Jl v.fields[i].1 (c:=40) (by decide)
   exact Zag rec n v a K hI hr l hl ho m k (i+1) _ (by omega) (by omega) (by rw [Dh];omega) (by rw [M9,Nat.add_mul];simp only;omega) (Dq hp ⟨by simp only;omega,g⟩)
  ·rw [Ai c,Ef]
   have d:=Jl v.text (c:=40) (by decide)
   have:i*K≤6*K:=Nat.mul_le_mul_right _ (by omega)
   refine ⟨_,rfl,?_,(Vl.ok_eq _).2 ⟨?_,ho,hp⟩⟩
   ·rw [Vl.size_eq];simp only [Vl.list,Vl.fields];omega
   ·show (v.text.extract 0 _).size≤1048576;omega
theorem UX (rec:Vl→Int→Option Vl) (n:Nat) (hn:8≤n) (v:Vl) (a:Int) (K:Nat) (hI:Bj (a-1)) (hr:1<a→∀ x,∃ w,rec x (a-1)=some w∧w.size≤K∧w.ok) :
  ∀ (m k i:Nat) (l:List Vl),i+k=6→k<m→l.length=i→DV l≤i*K→(∀ p∈l,p.ok)→∃ w,B9 rec n v a m l (i:Int)=some w∧w.size≤1+12*K∧w.ok
 | 0,k,i,f,_,h,_,_,_=>absurd h (Nat.not_lt_zero _)
 | m+1,k,i,f,hi,hm,hf,hs,hp=>by
  rw [B9]
  by_cases c:(((decide ((i:Int)<(v.list.length:Int)))&&(decide ((i:Int)<6)))&&(decide (1<a)))=true
  ·rw [Ah c]
   simp only [Bool.and_eq_true,decide_eq_true_eq] at c
   obtain ⟨⟨r,j⟩,g⟩:=c
   have b:i<v.list.length:=by omega
   obtain ⟨w,e,o,d⟩:=hr g v.list[i]
   obtain ⟨k,rfl⟩:∃ q,k=q+1:=⟨k-1,by omega⟩
   rw [AW b,Ae,Ah hI,e,Ae,Ab,Ah (AY (by omega))]
   exact UX rec n hn v a K hI hr m k (i+1) _ (by omega) (by omega) (by rw [Dh];omega) (by rw [Ot,Nat.add_mul];omega) (Dq hp d)
  ·rw [Ai c,ET]
   have:i*K≤6*K:=Nat.mul_le_mul_right _ (by omega)
   exact Zag rec n v a K hI hr f (by omega) hp n 6 0 [] (by omega) (by omega) rfl (by simp [Eu]) (by simp)
theorem GP:∀ (d n:Nat) (v:Vl),d≤50→d+9≤n→∃ w,AB n v ((d+1:Nat):Int)=some w∧w.size≤szV (d+1)∧w.ok
 | 0,n,v,h1,h2=>by
  obtain ⟨n,rfl⟩:∃ q,n=q+1:=⟨n-1,by omega⟩
  rw [AB,DX,Ah (Jg _ (by decide)),szV]
  exact UX (AB n) n (by omega) v _ 0 (by unfold Bj;omega) (fun c x=>by omega) n 6 0 [] (by omega) (by omega) rfl (by simp [DV]) (by simp)
 | d+1,n,v,h1,h2=>by
  obtain ⟨n,rfl⟩:∃ q,n=q+1:=⟨n-1,by omega⟩
  rw [AB,DX,Ah (Jg _ (by decide)),szV]
  exact UX (AB n) n (by omega) v _ (szV (d+1)) (by unfold Bj;omega) (fun c x=>by
   rw [show (((d+1+1:Nat):Int)-1)=((d+1:Nat):Int) from by omega]
   exact GP d n x (by omega) (by omega)) n 6 0 [] (by omega) (by omega) rfl (by simp [DV]) (by simp)
def Ex.fits:Nat→Ex→Prop
 | 0,_=>False
 | d+1,e=>e.text.size≤60∧(∀ v∈e.value,v.size≤13∧v.ok)∧e.args.length≤4∧(∀ x∈e.args,Ex.fits d x)∧e.value.length≤2
theorem Zai (rec:Ex→Int→Option Ex) (n:Nat) (v:Ex) (a:Int) (d:Nat) (hI:Bj (a-1)) (hr:1<a→∀ x,∃ w,rec x (a-1)=some w∧w.fits d) (l:List Vl) (ho:∀ x∈l,x.size≤13∧x.ok) (hl2:l.length≤2) :
  ∀ (m k i:Nat) (f:List Ex),i+k=4→k<m→f.length=i→(∀ p∈f,p.fits d)→∃ w,Ce rec n v a m l f (i:Int)=some w∧w.fits (d+1)
 | 0,k,i,f,_,h,_,_=>absurd h (Nat.not_lt_zero _)
 | m+1,k,i,f,hi,hm,hf,hp=>by
  rw [Ce]
  by_cases c:(((decide ((i:Int)<(v.args.length:Int)))&&(decide ((i:Int)<4)))&&(decide (1<a)))=true
  ·rw [Ah c]
   simp only [Bool.and_eq_true,decide_eq_true_eq] at c
   obtain ⟨⟨s,o⟩,j⟩:=c
   have b:i<v.args.length:=by omega
   obtain ⟨w,e,g⟩:=hr j v.args[i]
   obtain ⟨k,rfl⟩:∃ q,k=q+1:=⟨k-1,by omega⟩
   rw [AW b,Ae,Ah hI,e,Ae,Ab,Ah (AY (by omega))]
   exact Zai rec n v a d hI hr l ho hl2 m k (i+1) _ (by omega) (by omega) (by rw [Dh];omega) (Dq hp g)
  ·rw [Ai c,Ed]
   have r:=Jl v.text (c:=60) (by decide)
   refine ⟨_,rfl,?_,ho,?_,hp,hl2⟩
   ·show (v.text.extract 0 _).size≤60;omega
   ·simp only [Ex.args];omega
theorem Z3 (rec:Ex→Int→Option Ex) (n:Nat) (hn:20≤n) (v:Ex) (a:Int) (d:Nat) (hI:Bj (a-1)) (hr:1<a→∀ x,∃ w,rec x (a-1)=some w∧w.fits d) :
  ∀ (m k i:Nat) (f:List Vl),i+k=2→k<m→f.length=i→(∀ p∈f,p.size≤13∧p.ok)→∃ w,CP rec n v a m f (i:Int)=some w∧w.fits (d+1)
 | 0,k,i,f,_,h,_,_=>absurd h (Nat.not_lt_zero _)
 | m+1,k,i,f,hi,hm,hf,hp=>by
  rw [CP]
  by_cases c:((decide ((i:Int)<(v.value.length:Int)))&&(decide ((i:Int)<2)))=true
  ·rw [Ah c]
   simp only [Bool.and_eq_true,decide_eq_true_eq] at c
   obtain ⟨o,l⟩:=c
   have b:i<v.value.length:=by omega
   obtain ⟨w,e,g,j⟩:=GP 1 n v.value[i] (by omega) (by omega)
   have e:AB n v.value[i] 2=some w:=e
   obtain ⟨k,rfl⟩:∃ q,k=q+1:=⟨k-1,by omega⟩
   rw [AW b,Ae,e,Ae,Ab,Ah (AY (by omega))]
   exact Z3 rec n hn v a d hI hr m k (i+1) _ (by omega) (by omega) (by rw [Dh];omega) (Dq hp ⟨g,j⟩)
  ·rw [Ai c,EK]
   exact Zai rec n v a d hI hr f hp (by omega) n 4 0 [] (by omega) (by omega) rfl (by simp)
theorem Qb:∀ (d n:Nat) (v:Ex),d≤50→d+21≤n→∃ w,Bn n v ((d+1:Nat):Int)=some w∧w.fits (d+1)
 | 0,n,v,h1,h2=>by
  obtain ⟨n,rfl⟩:∃ q,n=q+1:=⟨n-1,by omega⟩
  rw [Bn,D1,Ah (Jg _ (by decide))]
  exact Z3 (Bn n) n (by omega) v _ 0 (by unfold Bj;omega) (fun c x=>by omega) n 2 0 [] (by omega) (by omega) rfl (by simp)
 | d+1,n,v,h1,h2=>by
  obtain ⟨n,rfl⟩:∃ q,n=q+1:=⟨n-1,by omega⟩
  rw [Bn,D1,Ah (Jg _ (by decide))]
  exact Z3 (Bn n) n (by omega) v _ (d+1) (by unfold Bj;omega) (fun c x=>by
   rw [show (((d+1+1:Nat):Int)-1)=((d+1:Nat):Int) from by omega]
   exact Qb d n x (by omega) (by omega)) n 2 0 [] (by omega) (by omega) rfl (by simp)
def KD (m:List (ByteArray × Ex)):Prop:=m.length≤8∧∀ p∈m,p.1.size≤60∧p.2.fits 4
theorem TY (n:Nat) (hn:30≤n) (a:List (ByteArray × Ex)):∀ (m k i:Nat) (f:List (ByteArray × Ex)),i+k=8→k<m→f.length=i→(∀ p∈f,p.1.size≤60∧p.2.fits 4)→∃ w,EO n a m (i:Int) f=some w∧KD w
 | 0,k,i,f,_,h,_,_=>absurd h (Nat.not_lt_zero _)
 | m+1,k,i,f,hi,hm,hf,hp=>by
  rw [EO]
  by_cases c:((decide ((i:Int)<(a.length:Int)))&&(decide ((i:Int)<8)))=true
  ·rw [Ah c]
   simp only [Bool.and_eq_true,decide_eq_true_eq] at c
   obtain ⟨l,g⟩:=c
   have b:i<a.length:=by omega
   obtain ⟨w,e,d⟩:=Qb 3 n a[i].2 (by omega) (by omega)
   have e:Bn n a[i].2 4=some w:=e
   obtain ⟨k,rfl⟩:∃ q,k=q+1:=⟨k-1,by omega⟩
   have j:=Jl a[i].1 (c:=60) (by decide)
   rw [AW b,Ae,Ah (Jg _ (by decide)),e,Ae,Ab,Ah (AY (by omega))]
   exact TY n hn a m k (i+1) _ (by omega) (by omega) (by rw [Dh];omega) (Dq hp ⟨by simp only;omega,d⟩)
  ·rw [Ai c,GL]
   exact ⟨_,rfl,by omega,hp⟩
theorem Ox (n:Nat) (hn:30≤n) (a:List (ByteArray × Ex)):∃ w,Ft n a=some w∧KD w:=TY n hn a n 8 0 [] (by omega) (by omega) rfl (by simp)
def szT:Nat→Nat
 | 0=>0
 | d+1=>1+8*szT d
def Ky (K D:Nat) (t:Ty):Prop:=t.size≤K∧t.depth≤D∧t.ok
theorem Zt (rec:Ty→Int→Option Ty) (n:Nat) (hn:20≤n) (ag:List ByteArray→List Ty→List TF→Int→Option Ty) (a z:Int) (p:TF) (ws:List ByteArray) (es:List Ty) (fs:List TF) :
  ∀ (m k i:Nat) (f:List Vl),i+k=2→k<m→f.length=i→(∀ v∈f,v.small)→∃ dl:List Vl,BP rec n ag a z p m ws es fs f (i:Int)=Dx rec n ag a z p ws es fs dl∧dl.length≤2∧∀ v∈dl,v.small
 | 0,k,i,f,_,h,_,_=>absurd h (Nat.not_lt_zero _)
 | m+1,k,i,f,hi,hm,hf,hp=>by
  rw [BP]
  by_cases c:((decide ((i:Int)<(p.2.2.2.2.length:Int)))&&(decide ((i:Int)<2)))=true
  ·rw [Ah c]
   simp only [Bool.and_eq_true,decide_eq_true_eq] at c
   obtain ⟨o,j⟩:=c
   have b:i<p.2.2.2.2.length:=by omega
   obtain ⟨w,e,d,g⟩:=GP 2 n p.2.2.2.2[i] (by omega) (by omega)
   have e:AB n p.2.2.2.2[i] 3=some w:=e
   have d:w.size≤157:=d
   have l:=w.depth_size
   obtain ⟨k,rfl⟩:∃ q,k=q+1:=⟨k-1,by omega⟩
   rw [AW b,Ae,e,Ae,Ab,Ah (AY (by omega))]
   exact Zt rec n hn ag a z p ws es fs m k (i+1) _ (by omega) (by omega) (by rw [Dh];omega) (Dq hp ⟨by omega,by omega,g⟩)
  ·rw [Ai c]
   exact ⟨_,rfl,by omega,hp⟩
theorem ZH (rec:Ty→Int→Option Ty) (n:Nat) (hn:20≤n) (t:Ty) (a:Int) (K D:Nat) (hI:Bj (a-1)) (hr:1<a→∀ x,∃ w,rec x (a-1)=some w∧Ky K D w)
  (ws:List ByteArray) (hw:ws.length≤6∧∀ w∈ws,w.size≤40) (es:List Ty) (he:GX es≤2*K∧∀ w∈es,Ky K D w) :
  ∀ (m k i:Nat) (f:List TF),i+k=6→k<m→f.length=i→EV f≤i*K→(∀ p∈f,p.2.1.size≤40∧Ky K D p.2.2.2.1∧p.2.2.2.2.length≤2∧∀ v∈p.2.2.2.2,v.small)→∃ w,A7 rec n t a m ws es f (i:Int)=some w∧Ky (1+8*K) (D+1) w
 | 0,k,i,f,_,h,_,_,_=>absurd h (Nat.not_lt_zero _)
 | m+1,k,i,f,hi,hm,hf,hs,hp=>by
  rw [A7]
  by_cases c:(((decide ((i:Int)<(t.fields.length:Int)))&&(decide ((i:Int)<6)))&&(decide (1<a)))=true
  ·rw [Ah c]
   simp only [Bool.and_eq_true,decide_eq_true_eq] at c
   obtain ⟨⟨F,z⟩,y⟩:=c
   have d:i<t.fields.length:=by omega
   obtain ⟨w,e,r,u,s⟩:=hr y t.fields[i].2.2.2.1
   obtain ⟨k,rfl⟩:∃ q,k=q+1:=⟨k-1,by omega⟩
   obtain ⟨dl,g,l,o⟩:=Zt rec n hn (A7 rec n t a m) a i t.fields[i] ws es f n 2 0 [] (by omega) (by omega) rfl (by simp)
   have g:BP rec n (A7 rec n t a m) a i t.fields[i] n ws es f [] 0=_:=g
   have C:=Jl t.fields[i].2.1 (c:=40) (by decide)
   rw [AW d,Ae,g,Dx,Ah (Jg _ (by decide)),Ah hI,e,Ae,Ab,EJ,Ah (AY (by omega))]
   exact ZH rec n hn t a K D hI hr ws hw es he m k (i+1) _ (by omega) (by omega) (by rw [Dh];omega) (by rw [Nv,Nat.add_mul];simp only;omega) (Dq hp ⟨by simp only;omega,⟨r,u,s⟩,l,o⟩)
  ·rw [Ai c,EM]
   have:i*K≤6*K:=Nat.mul_le_mul_right _ (by omega)
   refine ⟨_,rfl,?_,?_,(Ty.ok_eq _).2 ⟨?_,fun x b=>?_,fun x b=>(he.2 x b).2.2,fun p b=>?_⟩⟩
   ·rw [Ty.size_eq];simp only [Ty.elem,Ty.fields];omega
   ·rw [Ty.depth_eq];simp only [Ty.elem,Ty.fields]
    have E:=(OO es D).2 fun x b=>(he.2 x b).2.1
    have G:=(Nr f D).2 fun x b=>(hp x b).2.1.2.1
    omega
   ·simp only [Ty.words];omega
   ·have:=hw.2 x b;omega
   ·obtain ⟨q1,q2,q3,j⟩:=hp p b
    exact ⟨by omega,q2.2.2,by omega,j⟩
theorem Zap (rec:Ty→Int→Option Ty) (n:Nat) (hn:20≤n) (t:Ty) (a:Int) (K D:Nat) (hI:Bj (a-1)) (hr:1<a→∀ x,∃ w,rec x (a-1)=some w∧Ky K D w)
  (ws:List ByteArray) (hw:ws.length≤6∧∀ w∈ws,w.size≤40) :
  ∀ (m k i:Nat) (f:List Ty),i+k=2→k<m→f.length=i→GX f≤i*K→(∀ p∈f,Ky K D p)→∃ w,CS rec n t a m ws f (i:Int)=some w∧Ky (1+8*K) (D+1) w
 | 0,k,i,f,_,h,_,_,_=>absurd h (Nat.not_lt_zero _)
 | m+1,k,i,f,hi,hm,hf,hs,hp=>by
  rw [CS]
  by_cases c:(((decide ((i:Int)<(t.elem.length:Int)))&&(decide ((i:Int)<2)))&&(decide (1<a)))=true
  ·rw [Ah c]
   simp only [Bool.and_eq_true,decide_eq_true_eq] at c
   obtain ⟨⟨o,j⟩,g⟩:=c
   have b:i<t.elem.length:=by omega
   obtain ⟨w,e,d⟩:=hr g t.elem[i]
   have l:=d.1
   obtain ⟨k,rfl⟩:∃ q,k=q+1:=⟨k-1,by omega⟩
   rw [AW b,Ae,Ah hI,e,Ae,Ab,Ah (AY (by omega))]
   exact Zap rec n hn t a K D hI hr ws hw m k (i+1) _ (by omega) (by omega) (by rw [Dh];omega) (by rw [OM,Nat.add_mul];omega) (Dq hp d)
  ·rw [Ai c,EQ]
   have:i*K≤2*K:=Nat.mul_le_mul_right _ (by omega)
   exact ZH rec n hn t a K D hI hr ws hw f ⟨by omega,hp⟩ n 6 0 [] (by omega) (by omega) rfl (by simp [EV]) (by simp)
theorem Z0 (rec:Ty→Int→Option Ty) (n:Nat) (hn:20≤n) (t:Ty) (a:Int) (K D:Nat) (hI:Bj (a-1)) (hr:1<a→∀ x,∃ w,rec x (a-1)=some w∧Ky K D w) :
  ∀ (m k i:Nat) (f:List ByteArray),i+k=6→k<m→f.length=i→(∀ p∈f,p.size≤40)→∃ w,C7 rec n t a m f (i:Int)=some w∧Ky (1+8*K) (D+1) w
 | 0,k,i,f,_,h,_,_=>absurd h (Nat.not_lt_zero _)
 | m+1,k,i,f,hi,hm,hf,hp=>by
  rw [C7]
  by_cases c:((decide ((i:Int)<(t.words.length:Int)))&&(decide ((i:Int)<6)))=true
  ·rw [Ah c]
   simp only [Bool.and_eq_true,decide_eq_true_eq] at c
   obtain ⟨e,d⟩:=c
   have b:i<t.words.length:=by omega
   obtain ⟨k,rfl⟩:∃ q,k=q+1:=⟨k-1,by omega⟩
   have g:=Jl t.words[i] (c:=40) (by decide)
   rw [AW b,Ae,Ah (Jg _ (by decide)),Ab,Ah (AY (by omega))]
   exact Z0 rec n hn t a K D hI hr m k (i+1) _ (by omega) (by omega) (by rw [Dh];omega) (Dq hp (by omega))
  ·rw [Ai c,Fe]
   exact Zap rec n hn t a K D hI hr f ⟨by omega,hp⟩ n 2 0 [] (by omega) (by omega) rfl (by simp [GX]) (by simp)
theorem Qi:∀ (d n:Nat) (v:Ty),d≤50→d+21≤n→∃ w,Bl n v ((d+1:Nat):Int)=some w∧Ky (szT (d+1)) (d+1) w
 | 0,n,v,h1,h2=>by
  obtain ⟨n,rfl⟩:∃ q,n=q+1:=⟨n-1,by omega⟩
  rw [Bl,Ez,szT]
  exact Z0 (Bl n) n (by omega) v _ 0 0 (by unfold Bj;omega) (fun c x=>by omega) n 6 0 [] (by omega) (by omega) rfl (by simp)
 | d+1,n,v,h1,h2=>by
  obtain ⟨n,rfl⟩:∃ q,n=q+1:=⟨n-1,by omega⟩
  rw [Bl,Ez,szT]
  exact Z0 (Bl n) n (by omega) v _ (szT (d+1)) (d+1) (by unfold Bj;omega) (fun c x=>by
   rw [show (((d+1+1:Nat):Int)-1)=((d+1:Nat):Int) from by omega]
   exact Qi d n x (by omega) (by omega)) n 6 0 [] (by omega) (by omega) rfl (by simp)
def CW (n:Nat) (b:Msg):Option Msg :=
 if 0≤0∧0≤(if 6<(b.stamp.2.length:Int) then 6 else (b.stamp.2.length:Int))∧(if 6<(b.stamp.2.length:Int) then 6 else (b.stamp.2.length:Int))≤(b.stamp.2.length:Int) then
  if (0+(b.stamp.2.take ((if 6<(b.stamp.2.length:Int) then 6 else (b.stamp.2.length:Int))).toNat).length)*8≤140737488355328∧0+(b.stamp.2.take ((if 6<(b.stamp.2.length:Int) then 6 else (b.stamp.2.length:Int))).toNat).length≤4611686018427387904 then
   if 0≤0∧0≤(if 6<(b.origins.length:Int) then 6 else (b.origins.length:Int))∧(if 6<(b.origins.length:Int) then 6 else (b.origins.length:Int))≤(b.origins.length:Int) then
    if (0+(b.origins.take ((if 6<(b.origins.length:Int) then 6 else (b.origins.length:Int))).toNat).length)*8≤140737488355328∧0+(b.origins.take ((if 6<(b.origins.length:Int) then 6 else (b.origins.length:Int))).toNat).length≤4611686018427387904 then
     (AB n b.body 5).bind fun h =>
     some (Msg.mk ((b.stamp.1,b.stamp.2.take ((if 6<(b.stamp.2.length:Int) then 6 else (b.stamp.2.length:Int))).toNat)) ((if 1099511627776<(if b.mass<0 then 0 else b.mass) then 1099511627776 else (if b.mass<0 then 0 else b.mass))) (b.origins.take ((if 6<(b.origins.length:Int) then 6 else (b.origins.length:Int))).toNat) h)
    else none
   else none
  else none
 else none
theorem J4 (w0:World) (n:Nat) (B:Aq) (Rw:Au) (L:Av) (a0:Msg) (r:Msg) (h:CW n a0=some r) :
  ACalls Tryz.prog w0 22 [.agg ((Ak a0.stamp.1::([.list (a0.stamp.2.map C4) .none]))++(Ak a0.mass::(.list (a0.origins.map C4) .none::(a0.body.cs))))] ⟨B,Rw,L⟩ fun x st=>x = .agg ((Ak r.stamp.1::([.list (r.stamp.2.map C4) .none]))++(Ak r.mass::(.list (r.origins.map C4) .none::(r.body.cs))))∧st=⟨B,Rw,L⟩:=by
 rw [CW] at h
 refine hd [.cell 2 51] Tryz.func22 Tryz.ntmps22 fun M0 W0 C v w j z e hs=>?_
 simp only [AM]
 refine rg [1,2] hs ?_
 obtain ⟨u,h⟩:=An h
 obtain ⟨l,h⟩:=An h
 have e:=e.full 1 0
 obtain ⟨y,o,e,c⟩:=e.append (P:=Tryz.prog) ZN (by rw [WW];rfl) (by decide) ((a0.stamp.2.take ((if 6<(a0.stamp.2.length:Int) then 6 else (a0.stamp.2.length:Int))).toNat).length) l.1 l.2
 simp only [Nat.zero_add] at e
 replace c:=fun (ys:List AV) B L k=>c ([]) ys B L k EF
 replace c:=fun B L k=>c ((a0.stamp.2.take ((if 6<(a0.stamp.2.length:Int) then 6 else (a0.stamp.2.length:Int))).toNat).map C4) B L k EF (by simp +decide only [go_sem,Nat.reduceAdd])
 try simp only [List.mem_singleton,List.mem_cons,List.not_mem_nil,or_false,forall_eq_or_imp,forall_eq,List.map_append,List.map_cons,List.map_nil,HQ,HI,HH,HU,HF,HS,Gf,F9,HT,EC,Ep,Gg,Gi,Gh,HL,Ge,HG] at c
 have hs:=Ad c hs
 have hs:=Ad (Vl.cs_eqs a0.body) hs
 refine rg [1,2] hs ?_
 obtain ⟨p,h⟩:=An h
 obtain ⟨g,h⟩:=An h
 have e:=e.full 1 0
 obtain ⟨t,m,e,b⟩:=e.append (P:=Tryz.prog) ZN (by rw [WW];rfl) (by decide) ((a0.origins.take ((if 6<(a0.origins.length:Int) then 6 else (a0.origins.length:Int))).toNat).length) g.1 g.2
 simp only [Nat.zero_add] at e
 replace b:=fun (ys:List AV) B L k=>b ([]) ys B L k EF
 replace b:=fun B L k=>b ((a0.origins.take ((if 6<(a0.origins.length:Int) then 6 else (a0.origins.length:Int))).toNat).map C4) B L k EF (by simp +decide only [go_sem,Nat.reduceAdd])
 try simp only [List.mem_singleton,List.mem_cons,List.not_mem_nil,or_false,forall_eq_or_imp,forall_eq,List.map_append,List.map_cons,List.map_nil,HQ,HI,HH,HU,HF,HS,Gf,F9,HT,EC,Ep,Gg,Gi,Gh,HL,Ge,HG] at b
 have hs:=Ad b hs
 refine rg [1,2] hs ?_
 apply Am;intro K16 i
 obtain ⟨d,f,h⟩:=bind_some h
 apply Jw Pz [8,10] [1,4] [1,2] kr (fun s=>∃ (X:Aq) (rows:Au) (q:List AV),s=⟨B++([q,[Ak 0,.list ([]) .full,Ak 0,.list ([]) .full,Ak 0,Ak 0,Ak 0,.val (.string (⟨#[]⟩:ByteArray)),.list ([]) .full,.list ([]) .full]]++X),rows,L⟩) 3 (B.length+2)
 ·simp +decide only [go_sem,Nat.reduceAdd]
 ·refine ⟨2,?_⟩
  rw [Ao];simp +decide only [go_sem,Nat.reduceAdd,BA,c,Vl.cs_eqs a0.body,b,Vl.cs_eqs d]
  have hs:=Ad (Vl.cs_eqs d) hs
  (repeat' apply Ad)<;>first | refine Az _ (BS w0 n _ _ _ a0.body 5 _ f) (hv hs) ?_ | exact cl
  rw [Ao];simp +decide only [go_sem,Nat.reduceAdd,c,Vl.cs_eqs a0.body,b,Vl.cs_eqs d]
  (repeat' apply Ad)<;>first | rfl | exact cl
 ·rintro s ⟨X,rows,q,rfl⟩
  refine ⟨2,?_⟩
  rw [Ao];simp +decide only [go_sem,Nat.reduceAdd,BA,List.append_eq,List.cons_append,List.nil_append,c,Vl.cs_eqs a0.body,b,Vl.cs_eqs d]
  have hs:=Ad (Vl.cs_eqs d) hs
  (repeat' apply Ad)<;>first | refine Az _ (BS w0 n _ _ _ a0.body 5 _ f) (hv hs) ?_ | exact cl
  rw [Ao];simp +decide only [go_sem,Nat.reduceAdd,c,Vl.cs_eqs a0.body,b,Vl.cs_eqs d]
  (repeat' apply Ad)<;>first | rfl | ((repeat (first | exact .nil | refine .cons (ef hs) ?_));done) | exact cl
 ·exact gd (tg (a:=(8,10,[1,2]))) (Ad (Vl.cs_eqs d) (Ad b (Ad (Vl.cs_eqs a0.body) (Ad c hs))))
 simp +decide only [go_sem,Nat.reduceAdd,c,Vl.cs_eqs a0.body,b,Vl.cs_eqs d]
 (repeat' apply Ad)<;>first | refine i _ _ ?_ | exact cl
 clear i
 have hs:=Ad (Vl.cs_eqs d) hs
 refine rg [2] hs ?_
 exact rt h hs j e
def DR (n:Nat) (b:(List Slt)→Int→Option Stt) (h:Int) (q:List Slt):Option Stt :=
 if Bj (h+1) then
  b q (h+1)
 else none
def Ec (n:Nat) (h:Stt) (b:List Slt):Option Stt :=
 some (Stt.mk h.number h.time b)
def DT (n:Nat) (h:(List Slt)→Int→Option Stt) (q:Int) (y:Slt) (y17:Vl) (b:List Slt) (b3_k35_8:List Msg) (b3_k35_9:List Vl):Option Stt :=
 if (b.length+1)*152≤140737488355328∧b.length+1≤4611686018427387904 then
  DR n h q (b++([Slt.mk y17 y.number y.time b3_k35_8 b3_k35_9]))
 else none
def BU (n:Nat) (h:(List Slt)→Int→Option Stt) (y:Int) (x15:Slt) (y17:Vl):Nat→(List Slt)→Int→(List Msg)→(List Vl)→Option Stt
 | 0,_,_,_,_=>none
 | m+1,q,b,b3_l38_8,b3_l38_9 =>
  if (decide (b<(x15.values.length:Int)))&&(decide (b<4)) then
   (GM x15.values b).bind fun x43 =>
   (AB n x43 4).bind fun y44 =>
   if (b3_l38_9.length+1)*88≤140737488355328∧b3_l38_9.length+1≤4611686018427387904 then
    if Bj (b+1) then
     (BU n h y x15 y17 m) q (b+1) b3_l38_8 (b3_l38_9++([y44]))
    else none
   else none
  else
   DT n h y x15 y17 q b3_l38_8 b3_l38_9
def DN (n:Nat) (b:(List Slt)→Int→Option Stt) (q:Int) (y:Slt) (y17:Vl) (h:List Slt) (b3_k19_8:List Msg):Option Stt :=
 BU n b q y y17 n h 0 b3_k19_8 ([])
def BQ (n:Nat) (h:(List Slt)→Int→Option Stt) (y:Int) (x15:Slt) (y17:Vl):Nat→(List Slt)→Int→(List Msg)→Option Stt
 | 0,_,_,_=>none
 | m+1,q,b,b3_l22_8 =>
  if (decide (b<(x15.items.length:Int)))&&(decide (b<4)) then
   (GM x15.items b).bind fun x27 =>
   (CW n x27).bind fun y28 =>
   if (b3_l22_8.length+1)*152≤140737488355328∧b3_l22_8.length+1≤4611686018427387904 then
    if Bj (b+1) then
     (BQ n h y x15 y17 m) q (b+1) (b3_l22_8++([y28]))
    else none
   else none
  else
   DN n h y x15 y17 q b3_l22_8
def A4 (n:Nat) (y:Stt):Nat→(List Slt)→Int→Option Stt
 | 0,_,_=>none
 | m+1,h,b =>
  if (decide (b<(y.slots.length:Int)))&&(decide (b<6)) then
   (GM y.slots b).bind fun q =>
   (AB n q.key 3).bind fun y17 =>
   BQ n (A4 n y m) b q y17 n h 0 ([])
  else
   Ec n y h
def EI (n:Nat) (b:Stt):Option Stt :=
 A4 n b n ([]) 0
theorem Lh (w0:World) (n:Nat) (B:Aq) (Rw:Au) (L:Av) (a0:Stt) (r:Stt) (h:EI n a0=some r) :
  ACalls Tryz.prog w0 8 [.agg (Ak a0.number::(Ak a0.time::([.list (a0.slots.map B2) .none])))] ⟨B,Rw,L⟩ fun x st=>x = .agg (Ak r.number::(Ak r.time::([.list (r.slots.map B2) .none])))∧st=⟨B,Rw,L⟩:=by
 rw [EI] at h
 refine hd [.cell 2 37] Tryz.func8 Tryz.ntmps8 fun M0 W0 hN ai aj E hu u hs=>?_
 simp only [AM]
 refine rg [1,2] hs ?_
 refine rg [1,2,3] hs ?_
 refine A2 (fun e st=>∃ (ag:List Slt) (ah:Ev.Own),Ck e st B Rw L [(1,true,.box B.length 0),(2,true,.box (B.length+1) 0),(3,true,.list (ag.map B2) ah)] [Ak a0.number::(Ak a0.time::([.list (a0.slots.map B2) .none])),[Ak 0,Ak 0,.list ([]) .full]] [(10,ag.length,ah)] (Ec n a0 ag=some r)) ?_ ?_
 ·intro K5 bf
  refine rg [1,2,3,4] hs ?_
  apply As
  refine AP (fun m e st=>∃ (Z:List Slt) (c:Int) (N:Ev.Own),Ck e st B Rw L [(1,true,.box B.length 0),(2,true,.box (B.length+1) 0),(3,true,.list (Z.map B2) N),(4,true,Ak c)] [Ak a0.number::(Ak a0.time::([.list (a0.slots.map B2) .none])),[Ak 0,Ak 0,.list ([]) .full]] [(10,Z.length,N)] (A4 n a0 m Z c=some r)) n ⟨([]),0,.full,([]),Rw,ef hs,ef hs,Owns.of_eq ((u).full 10 0) EF,h⟩ ?_
  rintro ml7 e st ⟨Z,c,N,Xl7,Rl7,rfl,rfl,u,h⟩ Ul7 Vl7
  cases ml7 with
  | zero=>cases h
  | succ ml7 =>
  rw [A4] at h
  have hU:=u.unders
  simp only [List.mem_cons,List.not_mem_nil,or_false,forall_eq_or_imp,forall_eq] at hU
  refine td hN ai aj E u ?_
  apply Am;intro K8 a6
  refine rg [1,2,3,4,17] hs ?_
  refine GB h hs ?_ ?_<;>intro hs h
  rotate_left
  ·have K:=hs.1
   refine sx [1,2,3] hs bf ?_
   exact ⟨Z,N,([]),Rl7,ef hs,ef hs,Owns.of_eq (u) EF,h⟩
  have K:=hs.1
  refine sk [1,2,3,4] hs a6 ?_
  clear a6
  refine A2 (fun e st=>∃ (V:List Slt) (O:Ev.Own),Ck e st B Rw L [(1,true,.box B.length 0),(2,true,.box (B.length+1) 0),(3,true,.list (V.map B2) O),(4,true,Ak c)] [Ak a0.number::(Ak a0.time::([.list (a0.slots.map B2) .none])),[Ak 0,Ak 0,.list ([]) .full]] [(10,V.length,O)] (DR n (A4 n a0 ml7) c V=some r)) ?_ ?_
  ·intro K13 bc
   apply As
   obtain ⟨b,bd,h⟩:=bind_some h
   obtain ⟨bi,bh,a2⟩:=EZ bd
   have t:=EX (f:=B2) a2
   have hs:=Ad t hs
   refine rg [1,2,3,4,5] hs ?_
   apply Am;intro K16 aq
   obtain ⟨a,a7,h⟩:=bind_some h
   apply ZdM Pz [8,9] [1,2,3,4,5,6] kr (fun s=>∃ (X:Aq) (rows:Au),s=⟨B++([Ak a0.number::(Ak a0.time::([.list (a0.slots.map B2) .none])),[Ak 0,Ak 0,.list ([]) .full],(b.key.cs)++(Ak b.number::(Ak b.time::(.list (b.items.map BZ) .none::([.list (b.values.map Dp) .none]))))]++X),rows,L⟩) 3 (B.length+3)
   ·simp +decide only [go_sem,Nat.reduceAdd]
   ·rintro s ⟨X,rows,rfl⟩
    refine ⟨2,?_⟩
    rw [Ao];simp +decide only [go_sem,Nat.reduceAdd,BA,K,t,Vl.cs_eqs a]
    have hs:=Ad (Vl.cs_eqs a) hs
    (repeat' apply Ad)<;>first | refine Az _ (BS w0 n _ _ _ b.key 3 _ a7) (hv hs) ?_ | exact cl
    rw [Ao];simp +decide only [go_sem,Nat.reduceAdd,K,t,Vl.cs_eqs a]
    (repeat' apply Ad)<;>first | rfl | exact cl
   ·refine Good.mk [8] kr ⟨[],_,by first | rfl | simp only [List.append_nil,List.nil_append]⟩ ?_ ?_
    ·intro h;exact absurd h (by decide)
    ·intro i hi;simp only [List.mem_cons,List.not_mem_nil,or_false] at hi
     subst hi
     ·apply MU rfl rfl ev
      ·simp +decide only [go_sem,Nat.reduceAdd,GY,K,t,Vl.cs_eqs a]
       (repeat' apply Ad)<;>first | rfl | exact cl
      ·simp +decide only [go_sem,Nat.reduceAdd,K,t,Vl.cs_eqs a]
       refine Good.mk [9] kr ⟨_,_,by first | rfl | simp only [List.append_nil,List.nil_append]⟩ ?_ ?_
       ·intro h;exact absurd h (by decide)
       ·intro i hi;simp only [List.mem_cons,List.not_mem_nil,or_false] at hi
        subst hi
        ·apply MU rfl rfl ev
         ·simp +decide only [go_sem,Nat.reduceAdd,GY,K,t,Vl.cs_eqs a]
          (repeat' apply Ad)<;>first | rfl | exact cl
         ·simp +decide only [go_sem,Nat.reduceAdd,K,t,Vl.cs_eqs a]
          refine Good.mk [] kr ⟨_,_,by first | rfl | simp only [List.append_nil,List.nil_append]⟩ ?_ ?_
          ·intro _;apply QM [1,2,3,4,5,6];first | (simp +decide only [go_sem,Nat.reduceAdd,K,t,Vl.cs_eqs a];done) | (simp +decide only [go_sem,Nat.reduceAdd,K,t,Vl.cs_eqs a];rfl)
          ·intro i hi;cases hi
   simp +decide only [go_sem,Nat.reduceAdd,K,t,Vl.cs_eqs a]
   (repeat' apply Ad)<;>first | refine aq _ _ ?_ | exact cl
   clear aq
   refine A2 (fun e st=>∃ (U:List Slt) (v:List Msg) (Q:Ev.Own) (w:Ev.Own),Ck e st B Rw L [(1,true,.box B.length 0),(2,true,.box (B.length+1) 0),(3,true,.list (U.map B2) Q),(4,true,Ak c),(5,true,.box (B.length+2) 0),(6,true,.box (B.length+3) 0)] [Ak a0.number::(Ak a0.time::([.list (a0.slots.map B2) .none])),[Ak 0,Ak 0,.list ([]) .full],(b.key.cs)++(Ak b.number::(Ak b.time::(.list (b.items.map BZ) .none::([.list (b.values.map Dp) .none])))),[Ak a.kind,Ak a.int,Ak a.scale,.val (.string a.text),.list (a.list.map Dp) .none,.list (a.fields.map Ld) .none,Ak b.number,Ak b.time,.list (v.map BZ) w,.list ([]) .full]] [(10,U.length,Q),(10,v.length,w)] (DN n (A4 n a0 ml7) c b a U v=some r)) ?_ ?_
   ·intro K20 bb
    have hs:=Ad (Vl.cs_eqs a) hs
    refine rg [1,2,3,4,5,6,7] hs ?_
    apply As
    refine AP (fun m e st=>∃ (H:List Slt) (ae:Int) (d:List Msg) (F:Ev.Own) (z:Ev.Own),Ck e st B Rw L [(1,true,.box B.length 0),(2,true,.box (B.length+1) 0),(3,true,.list (H.map B2) F),(4,true,Ak c),(5,true,.box (B.length+2) 0),(6,true,.box (B.length+3) 0),(7,true,Ak ae)] [Ak a0.number::(Ak a0.time::([.list (a0.slots.map B2) .none])),[Ak 0,Ak 0,.list ([]) .full],(b.key.cs)++(Ak b.number::(Ak b.time::(.list (b.items.map BZ) .none::([.list (b.values.map Dp) .none])))),[Ak a.kind,Ak a.int,Ak a.scale,.val (.string a.text),.list (a.list.map Dp) .none,.list (a.fields.map Ld) .none,Ak b.number,Ak b.time,.list (d.map BZ) z,.list ([]) .full]] [(10,H.length,F),(10,d.length,z)] (BQ n (A4 n a0 ml7) c b a m H ae d=some r)) n ⟨Z,0,([]),N,.full,([]),Rl7,ef hs,ef hs,Owns.of_eq (((u).full 10 0).swap (List.Perm.swap _ _ _)) EF,h⟩ ?_
    rintro ml22 e st ⟨H,ae,d,F,z,Xl22,Rl22,rfl,rfl,u,h⟩ Ul22 Vl22
    cases ml22 with
    | zero=>cases h
    | succ ml22 =>
    rw [BQ] at h
    have hU:=u.unders
    simp only [List.mem_cons,List.not_mem_nil,or_false,forall_eq_or_imp,forall_eq] at hU
    obtain ⟨a4,a3⟩:=hU
    refine td hN ai aj E u ?_
    apply Am;intro K23 ay
    refine rg [1,2,3,4,5,6,7,41] hs ?_
    refine GB h hs ?_ ?_<;>intro hs h
    rotate_left
    ·refine sx [1,2,3,4,5,6] hs bb ?_
     exact ⟨H,d,F,z,([]),Rl22,ef hs,ef hs,Owns.of_eq (((u).swap (List.Perm.swap _ _ _)).swap (List.Perm.swap _ _ _)) EF,h⟩
    refine sk [1,2,3,4,5,6,7] hs ay ?_
    clear ay
    apply Am;intro K26 au
    apply As
    obtain ⟨bg,br,bj,az,h⟩:=ix BZ h
    obtain ⟨bm,a5,h⟩:=bind_some h
    obtain ⟨ax,h⟩:=An h
    have u:=u.swap (List.Perm.swap _ _ _)
    obtain ⟨bp,ak,u,aa⟩:=u.append (P:=Tryz.prog) Zbd (by rw [Up];rfl) (by decide) 1 ax.1 ax.2
    replace aa:=fun (ys:List AV) B L o2=>aa (d.map BZ) ys B L o2 EF
    replace aa:=fun (y:AV) B L o2=>aa [y] B L o2 EF ev
    try simp only [List.mem_singleton,List.mem_cons,List.not_mem_nil,or_false,forall_eq_or_imp,forall_eq,List.map_append,List.map_cons,List.map_nil,HQ,HI,HH,HU,HF,HS,Gf,F9,HT,EC,Ep,Gg,Gi,Gh,HL,Ge,HG] at aa
    have hs:=Ad az hs
    have hs:=Ad aa hs
    refine dk 9 2 1 [1,2,3,4,5,6,7] hs Pz ?_
    refine Az _ (J4 w0 n _ _ _ bg _ a5) (hv hs) ?_
    refine dn hs au ?_
    clear au
    obtain ⟨bt,h⟩:=An h
    refine rl [1,2,3,4,5,6,7] hs (fun e s=>Vl22 ml22 e s (Nat.lt_succ_self _)) ?_
    exact ⟨H,(ae+1),(d++([bm])),F,bp,([]),ak,ef hs,ef hs,Owns.of_eq ((u).swap (List.Perm.swap _ _ _)) EF,h⟩
   ·clear h;rintro e st ⟨U,v,Q,w,Xk19,Rk19,rfl,rfl,u,h⟩
    rw [DN] at h
    have hU:=u.unders
    simp only [List.mem_cons,List.not_mem_nil,or_false,forall_eq_or_imp,forall_eq] at hU
    obtain ⟨a4,a3⟩:=hU
    refine td hN ai aj E u ?_
    refine A2 (fun e st=>∃ (C:List Slt) (k:List Msg) (g:List Vl) (af:Ev.Own) (p:Ev.Own) (q:Ev.Own),Ck e st B Rw L [(1,true,.box B.length 0),(2,true,.box (B.length+1) 0),(3,true,.list (C.map B2) af),(4,true,Ak c),(6,true,.box (B.length+3) 0)] [Ak a0.number::(Ak a0.time::([.list (a0.slots.map B2) .none])),[Ak 0,Ak 0,.list ([]) .full],(b.key.cs)++(Ak b.number::(Ak b.time::(.list (b.items.map BZ) .none::([.list (b.values.map Dp) .none])))),[Ak a.kind,Ak a.int,Ak a.scale,.val (.string a.text),.list (a.list.map Dp) .none,.list (a.fields.map Ld) .none,Ak b.number,Ak b.time,.list (k.map BZ) p,.list (g.map Dp) q]] [(10,C.length,af),(10,k.length,p),(6,g.length,q)] (DT n (A4 n a0 ml7) c b a C k g=some r)) ?_ ?_
    ·intro K36 a8
     have hs:=Ad (Vl.cs_eqs a) hs
     refine rg [1,2,3,4,5,6,8] hs ?_
     apply As
     refine AP (fun m e st=>∃ (J:List Slt) (ad:Int) (l:List Msg) (j:List Vl) (G:Ev.Own) (o:Ev.Own) (D:Ev.Own),Ck e st B Rw L [(1,true,.box B.length 0),(2,true,.box (B.length+1) 0),(3,true,.list (J.map B2) G),(4,true,Ak c),(5,true,.box (B.length+2) 0),(6,true,.box (B.length+3) 0),(8,true,Ak ad)] [Ak a0.number::(Ak a0.time::([.list (a0.slots.map B2) .none])),[Ak 0,Ak 0,.list ([]) .full],(b.key.cs)++(Ak b.number::(Ak b.time::(.list (b.items.map BZ) .none::([.list (b.values.map Dp) .none])))),[Ak a.kind,Ak a.int,Ak a.scale,.val (.string a.text),.list (a.list.map Dp) .none,.list (a.fields.map Ld) .none,Ak b.number,Ak b.time,.list (l.map BZ) o,.list (j.map Dp) D]] [(10,J.length,G),(10,l.length,o),(6,j.length,D)] (BU n (A4 n a0 ml7) c b a m J ad l j=some r)) n ⟨U,0,v,([]),Q,w,.full,([]),Rk19,ef hs,ef hs,Owns.of_eq ((((u).full 6 0).swap ((List.Perm.cons _ (List.Perm.swap _ _ _)).trans (List.Perm.swap _ _ _))).swap ((List.Perm.cons _ (List.Perm.swap _ _ _)).trans (List.Perm.swap _ _ _))) EF,h⟩ ?_
     rintro ml38 e st ⟨J,ad,l,j,G,o,D,Xl38,Rl38,rfl,rfl,u,h⟩ Ul38 Vl38
     cases ml38 with
     | zero=>cases h
     | succ ml38 =>
     rw [BU] at h
     have hU:=u.unders
     simp only [List.mem_cons,List.not_mem_nil,or_false,forall_eq_or_imp,forall_eq] at hU
     obtain ⟨a4,a3,bo⟩:=hU
     refine td hN ai aj E u ?_
     apply Am;intro K39 ap
     refine rg [1,2,3,4,5,6,8,63] hs ?_
     refine GB h hs ?_ ?_<;>intro hs h
     rotate_left
     ·refine sx [1,2,3,4,6] hs a8 ?_
      exact ⟨J,l,j,G,o,D,([]),Rl38,ef hs,ef hs,Owns.of_eq ((((u).swap ((List.Perm.cons _ (List.Perm.swap _ _ _)).trans (List.Perm.swap _ _ _))).swap ((List.Perm.cons _ (List.Perm.swap _ _ _)).trans (List.Perm.swap _ _ _))).swap ((List.Perm.cons _ (List.Perm.swap _ _ _)).trans (List.Perm.swap _ _ _))) EF,h⟩
     refine sk [1,2,3,4,5,6,8] hs ap ?_
     clear ap
     apply Am;intro K42 ar
     apply As
     obtain ⟨bl,be,bq,a1,h⟩:=ix Dp h
     obtain ⟨bn,a9,h⟩:=bind_some h
     obtain ⟨av,h⟩:=An h
     have u:=u.swap ((List.Perm.cons _ (List.Perm.swap _ _ _)).trans (List.Perm.swap _ _ _))
     obtain ⟨bk,ao,u,ab⟩:=u.append (P:=Tryz.prog) Py (by rw [Ji];rfl) (by decide) 1 av.1 av.2
     replace ab:=fun (ys:List AV) B L o2=>ab (j.map Dp) ys B L o2 EF
     replace ab:=fun (y:AV) B L o2=>ab [y] B L o2 EF ev
     try simp only [List.mem_singleton,List.mem_cons,List.not_mem_nil,or_false,forall_eq_or_imp,forall_eq,List.map_append,List.map_cons,List.map_nil,HQ,HI,HH,HU,HF,HS,Gf,F9,HT,EC,Ep,Gg,Gi,Gh,HL,Ge,HG] at ab
     have hs:=Ad a1 hs
     have hs:=Ad ab hs
     refine dk 9 2 1 [1,2,3,4,5,6,8] hs Pz ?_
     refine Az _ (BS w0 n _ _ _ bl 4 _ a9) (hv hs) ?_
     refine dn hs ar ?_
     clear ar
     obtain ⟨bs,h⟩:=An h
     refine rl [1,2,3,4,5,6,8] hs (fun e s=>Vl38 ml38 e s (Nat.lt_succ_self _)) ?_
     exact ⟨J,(ad+1),l,(j++([bn])),G,o,bk,([]),ao,ef hs,ef hs,Owns.of_eq (((u).swap ((List.Perm.cons _ (List.Perm.swap _ _ _)).trans (List.Perm.swap _ _ _))).swap ((List.Perm.cons _ (List.Perm.swap _ _ _)).trans (List.Perm.swap _ _ _))) EF,h⟩
    ·clear h;rintro e st ⟨C,k,g,af,p,q,Xk35,Rk35,rfl,rfl,u,h⟩
     rw [DT] at h
     have hU:=u.unders
     simp only [List.mem_cons,List.not_mem_nil,or_false,forall_eq_or_imp,forall_eq] at hU
     obtain ⟨a4,a3,bo⟩:=hU
     refine td hN ai aj E u ?_
     obtain ⟨aw,h⟩:=An h
     obtain ⟨ba,am,u,Y⟩:=u.append (P:=Tryz.prog) ZfE (by rw [Zq];rfl) (by decide) 1 aw.1 aw.2
     replace Y:=fun (ys:List AV) B L o2=>Y (C.map B2) ys B L o2 EF
     replace Y:=fun (y:AV) B L o2=>Y [y] B L o2 EF ev
     try simp only [List.mem_singleton,List.mem_cons,List.not_mem_nil,or_false,forall_eq_or_imp,forall_eq,List.map_append,List.map_cons,List.map_nil,HQ,HI,HH,HU,HF,HS,Gf,F9,HT,EC,Ep,Gg,Gi,Gh,HL,Ge,HG] at Y
     have hs:=Ad (Vl.cs_eqs a) hs
     have hs:=Ad Y hs
     refine rl [1,2,3,4] hs bc ?_
     exact ⟨(C++([Slt.mk a b.number b.time k g])),ba,([(b.key.cs)++(Ak b.number::(Ak b.time::(.list (b.items.map BZ) .none::([.list (b.values.map Dp) .none])))),[Ak a.kind,Ak a.int,Ak a.scale,.val (.string a.text),.list (a.list.map Dp) .none,.list (a.fields.map Ld) .none,Ak b.number,Ak b.time,.list (k.map BZ) p,.list (g.map Dp) q]]),am,ef hs,ef hs,Owns.of_eq ((u).sub (List.sublist_append_left [(10,C.length+1,ba)] [(10,k.length,p),(6,g.length,q)])) EF,h⟩
  ·clear h;rintro e st ⟨V,O,Xk12,Rk12,rfl,rfl,u,h⟩
   rw [DR] at h
   have hU:=u.unders
   simp only [List.mem_cons,List.not_mem_nil,or_false,forall_eq_or_imp,forall_eq] at hU
   refine td hN ai aj E u ?_
   obtain ⟨bu,h⟩:=An h
   refine rl [1,2,3,4] hs (fun e s=>Vl7 ml7 e s (Nat.lt_succ_self _)) ?_
   exact ⟨V,(c+1),O,([]),Rk12,ef hs,ef hs,Owns.of_eq (u) EF,h⟩
 ·clear h;rintro e st ⟨ag,ah,Xk4,Rk4,rfl,rfl,u,h⟩
  rw [Ec] at h
  have hU:=u.unders
  simp only [List.mem_cons,List.not_mem_nil,or_false,forall_eq_or_imp,forall_eq] at hU
  refine td hN ai aj E u ?_
  refine rg [1,2] hs ?_
  refine rg [2] hs ?_
  exact rt h hs E u
end Go.Proofs.YtcdnijfbfdnjlaaGreatDoor
