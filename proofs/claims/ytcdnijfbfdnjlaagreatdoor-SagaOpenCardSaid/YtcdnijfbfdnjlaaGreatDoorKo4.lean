/-
  Part 4 of the proof: rules and walks that the claim's last text uses.
-/
import Derived.Carry
import Derived.ChangeOld
import Derived.ChangeSlices
import Derived.Deep.DeepHandedRow
import Derived.Deep.DeepWitnessRowRef
import Derived.Lib.AppendZeros
import Derived.Lib.Bytealg
import Derived.Lib.LaidIn
import Derived.Lib.LaidU8T
import Derived.PinnedBridge
import Derived.ProofKit
import Derived.SevenTiedAt
import Derived.Shelf.SlSortCmp.WholeK
import Derived.Shelf.SlicesE.Clone
import Derived.SizedLaws
import Derived.Sort.Lot0
import Derived.Test.YtcdnijfbfdnjlaaGreatDoorCards
import Derived.Test.YtcdnijfbfdnjlaaGreatDoorProg
import Derived.Test.YtcdnijfbfdnjlaaGreatDoorRows
import Derived.Test.YtcdnijfbfdnjlaaGreatDoorTie
import Derived.Test.YtcdnijfbfdnjlaaGreatDoorKo3
set_option linter.unusedSimpArgs false
set_option linter.unusedVariables false
set_option maxRecDepth 100000
set_option maxHeartbeats 4000000
namespace Go.Proofs.YtcdnijfbfdnjlaaGreatDoor
open Go Go.RowKit Go.Ev
structure Part where
 kind:Int
 index:Int
 name:ByteArray
structure Itm where
 v:Vl
 level:Int
structure Lim where
 name:ByteArray
 low:Int
 high:Int
 bounds:Bool
 scale:Bool
 text:Bool
 list:Bool
 fields:Bool
structure Sch where
 name:ByteArray
 version:Int
 type:Ty
theorem Vl.under_mem0 (nb nr nl:Nat) (v:Vl):(∀ x∈v.cs,Under nb nr nl x)↔True:=iff_true_intro (v.under nb nr nl)
theorem Ty.under_mem0 (nb nr nl:Nat) (v:Ty):(∀ x∈v.cs,Under nb nr nl x)↔True:=iff_true_intro (v.under nb nr nl)
structure Msg where
 stamp:Int × List Int
 mass:Int
 origins:List Int
 body:Vl
structure Slt where
 key:Vl
 number:Int
 time:Int
 items:List Msg
 values:List Vl
structure Stt where
 number:Int
 time:Int
 slots:List Slt
structure Nod where
 name:ByteArray
 kind:Int
 schema:Int
 result:Int
 number:Int
 time:Int
 limit:Int
 text:ByteArray
 type:Ty
 types:List Ty
 exprs:List Ex
 mapping:List (ByteArray × Ex)
 calls:List (ByteArray × List (ByteArray × Ex))
 next:List Int
structure Inp where
 kind:Int
 time:Int
 stamp:Int × List Int
 message:Msg
 call:Int
 undo:Bool
 done:Bool
 body:Vl
structure Chk where
 items:List Msg
 values:Int
def U2 {α:Type} (f:α→AV) (l:List α):AV := .list (l.map f) .none
@[go_sem] theorem Hw {α:Type} (f:α→AV) (l:List α):U2 f l = .list (l.map f) .none:=rfl
@[go_sem] theorem Zj3 {α:Type} (f:α→AV) (l:List α) (n:Nat):(l.map f).take n=(l.take n).map f:=List.map_take.symm
@[go_sem] theorem Zjw {α:Type} (f:α→AV) (l:List α) (n:Nat):(l.map f).drop n=(l.drop n).map f:=List.map_drop.symm
attribute [go_sem] List.length_map List.take_length
@[go_sem] theorem Vl.gs (v:Vl) (l:List AV) (d:AV):(v.cs++l).getD 6 d=l.getD 0 d∧(v.cs++l).getD 7 d=l.getD 1 d∧(v.cs++l).getD 8 d=l.getD 2 d∧(v.cs++l).getD 9 d=l.getD 3 d∧(v.cs++l).getD 10 d=l.getD 4 d∧(v.cs++l).getD 11 d=l.getD 5 d∧(v.cs++l).getD 12 d=l.getD 6 d∧(v.cs++l).getD 13 d=l.getD 7 d∧(v.cs++l).getD 14 d=l.getD 8 d∧(v.cs++l).getD 15 d=l.getD 9 d:=by cases v;(repeat' apply Ad)<;>rfl
@[go_sem] theorem Vl.ds (v:Vl) (l:List AV):(v.cs++l).drop 6=l.drop 0∧(v.cs++l).drop 7=l.drop 1∧(v.cs++l).drop 8=l.drop 2∧(v.cs++l).drop 9=l.drop 3∧(v.cs++l).drop 10=l.drop 4∧(v.cs++l).drop 11=l.drop 5∧(v.cs++l).drop 12=l.drop 6∧(v.cs++l).drop 13=l.drop 7∧(v.cs++l).drop 14=l.drop 8∧(v.cs++l).drop 15=l.drop 9:=by cases v;(repeat' apply Ad)<;>rfl
@[go_sem] theorem Vl.ts (v:Vl) (l:List AV):(v.cs++l).take 7=v.cs++l.take 1∧(v.cs++l).take 8=v.cs++l.take 2∧(v.cs++l).take 9=v.cs++l.take 3∧(v.cs++l).take 10=v.cs++l.take 4∧(v.cs++l).take 11=v.cs++l.take 5∧(v.cs++l).take 12=v.cs++l.take 6∧(v.cs++l).take 13=v.cs++l.take 7∧(v.cs++l).take 14=v.cs++l.take 8∧(v.cs++l).take 15=v.cs++l.take 9:=by cases v;(repeat' apply Ad)<;>rfl
@[go_sem] theorem Ty.gs (t:Ty) (l:List AV) (d:AV):(t.cs++l).getD 7 d=l.getD 0 d∧(t.cs++l).getD 8 d=l.getD 1 d∧(t.cs++l).getD 9 d=l.getD 2 d∧(t.cs++l).getD 10 d=l.getD 3 d∧(t.cs++l).getD 11 d=l.getD 4 d∧(t.cs++l).getD 12 d=l.getD 5 d∧(t.cs++l).getD 13 d=l.getD 6 d∧(t.cs++l).getD 14 d=l.getD 7 d∧(t.cs++l).getD 15 d=l.getD 8 d∧(t.cs++l).getD 16 d=l.getD 9 d∧(t.cs++l).getD 17 d=l.getD 10 d∧(t.cs++l).getD 18 d=l.getD 11 d∧(t.cs++l).getD 19 d=l.getD 12 d∧(t.cs++l).getD 20 d=l.getD 13 d∧(t.cs++l).getD 21 d=l.getD 14 d∧(t.cs++l).getD 22 d=l.getD 15 d∧(t.cs++l).getD 23 d=l.getD 16 d∧(t.cs++l).getD 24 d=l.getD 17 d:=by cases t;(repeat' apply Ad)<;>rfl
@[go_sem] theorem Ty.ds (t:Ty) (l:List AV):(t.cs++l).drop 7=l.drop 0∧(t.cs++l).drop 8=l.drop 1∧(t.cs++l).drop 9=l.drop 2∧(t.cs++l).drop 10=l.drop 3∧(t.cs++l).drop 11=l.drop 4∧(t.cs++l).drop 12=l.drop 5∧(t.cs++l).drop 13=l.drop 6∧(t.cs++l).drop 14=l.drop 7∧(t.cs++l).drop 15=l.drop 8∧(t.cs++l).drop 16=l.drop 9∧(t.cs++l).drop 17=l.drop 10∧(t.cs++l).drop 18=l.drop 11∧(t.cs++l).drop 19=l.drop 12∧(t.cs++l).drop 20=l.drop 13∧(t.cs++l).drop 21=l.drop 14∧(t.cs++l).drop 22=l.drop 15∧(t.cs++l).drop 23=l.drop 16∧(t.cs++l).drop 24=l.drop 17:=by cases t;(repeat' apply Ad)<;>rfl
@[go_sem] theorem Ty.ts (t:Ty) (l:List AV):(t.cs++l).take 8=t.cs++l.take 1∧(t.cs++l).take 9=t.cs++l.take 2∧(t.cs++l).take 10=t.cs++l.take 3∧(t.cs++l).take 11=t.cs++l.take 4∧(t.cs++l).take 12=t.cs++l.take 5∧(t.cs++l).take 13=t.cs++l.take 6∧(t.cs++l).take 14=t.cs++l.take 7∧(t.cs++l).take 15=t.cs++l.take 8∧(t.cs++l).take 16=t.cs++l.take 9∧(t.cs++l).take 17=t.cs++l.take 10∧(t.cs++l).take 18=t.cs++l.take 11∧(t.cs++l).take 19=t.cs++l.take 12∧(t.cs++l).take 20=t.cs++l.take 13∧(t.cs++l).take 21=t.cs++l.take 14∧(t.cs++l).take 22=t.cs++l.take 15∧(t.cs++l).take 23=t.cs++l.take 16∧(t.cs++l).take 24=t.cs++l.take 17:=by cases t;(repeat' apply Ad)<;>rfl
@[go_sem] theorem Vl.hs (v:Vl) (l:List AV) (d:AV):(v.cs++l).getD 0 d = .val (.int .i64 v.kind)∧(v.cs++l).getD 1 d = .val (.int .i64 v.int)∧(v.cs++l).getD 2 d = .val (.int .i64 v.scale)∧(v.cs++l).getD 3 d = .val (.string v.text)∧(v.cs++l).getD 4 d = .list (Da v.list) .none∧(v.cs++l).getD 5 d = .list (Gz v.fields) .none:=by cases v;(repeat' apply Ad)<;>rfl
def BG (x:Int):AV:=Ak x
@[go_sem] theorem Hv (x:Int):BG x=Ak x:=rfl
@[go_sem] theorem ZhU (l:List (Int)):(∀ y∈l.map BG,y.cells.length=1)↔True:=iff_true_intro fun y a=>by
 obtain ⟨x,_,rfl⟩:=List.mem_map.1 a
 simp +decide only [go_sem]
@[go_sem] theorem ZlO (l:List (Int)):(∀ y∈l.map BG,y.cells.length=1∧AA y=true)↔True:=iff_true_intro fun y a=>by
 obtain ⟨x,_,rfl⟩:=List.mem_map.1 a
 simp +decide only [go_sem]
@[go_sem] theorem ZhQ (nb nr nl:Nat) (l:List (Int)):(∀ y∈l.map BG,Under nb nr nl y)↔True:=iff_true_intro fun y a=>by
 obtain ⟨x,_,rfl⟩:=List.mem_map.1 a
 exact .val _
@[go_sem] theorem Zkm (l:List (Int)):(l.map BG).map AV.pub=l.map BG:=by
 rw [List.map_map]
 refine List.map_congr_left fun x _=>?_
 simp +decide only [Function.comp,go_sem]
def avB (x:Bool):AV := .val (.bool x)
@[go_sem] theorem Hh (x:Bool):avB x = .val (.bool x):=rfl
@[go_sem] theorem Zh2 (l:List (Bool)):(∀ y∈l.map avB,y.cells.length=1)↔True:=iff_true_intro fun y a=>by
 obtain ⟨x,_,rfl⟩:=List.mem_map.1 a
 simp +decide only [go_sem]
@[go_sem] theorem Zll (l:List (Bool)):(∀ y∈l.map avB,y.cells.length=1∧AA y=true)↔True:=iff_true_intro fun y a=>by
 obtain ⟨x,_,rfl⟩:=List.mem_map.1 a
 simp +decide only [go_sem]
@[go_sem] theorem ZhF (nb nr nl:Nat) (l:List (Bool)):(∀ y∈l.map avB,Under nb nr nl y)↔True:=iff_true_intro fun y a=>by
 obtain ⟨x,_,rfl⟩:=List.mem_map.1 a
 exact .val _
@[go_sem] theorem ZkG (l:List (Bool)):(l.map avB).map AV.pub=l.map avB:=by
 rw [List.map_map]
 refine List.map_congr_left fun x _=>?_
 simp +decide only [Function.comp,go_sem]
def IL (x:ByteArray):AV := .val (.string x)
@[go_sem] theorem Hy (x:ByteArray):IL x = .val (.string x):=rfl
@[go_sem] theorem ZhZ (l:List (ByteArray)):(∀ y∈l.map IL,y.cells.length=1)↔True:=iff_true_intro fun y a=>by
 obtain ⟨x,_,rfl⟩:=List.mem_map.1 a
 simp +decide only [go_sem]
@[go_sem] theorem ZlC (l:List (ByteArray)):(∀ y∈l.map IL,y.cells.length=1∧AA y=true)↔True:=iff_true_intro fun y a=>by
 obtain ⟨x,_,rfl⟩:=List.mem_map.1 a
 simp +decide only [go_sem]
@[go_sem] theorem ZhL (nb nr nl:Nat) (l:List (ByteArray)):(∀ y∈l.map IL,Under nb nr nl y)↔True:=iff_true_intro fun y a=>by
 obtain ⟨x,_,rfl⟩:=List.mem_map.1 a
 exact .val _
@[go_sem] theorem Zks (l:List (ByteArray)):(l.map IL).map AV.pub=l.map IL:=by
 rw [List.map_map]
 refine List.map_congr_left fun x _=>?_
 simp +decide only [Function.comp,go_sem]
def C4 (x:Vl):AV := .agg x.cs
@[go_sem] theorem G4 (x:Vl):C4 x = .agg x.cs:=rfl
@[go_sem] theorem Zib (l:List (Vl)):(∀ y∈l.map C4,y.cells.length=6)↔True:=iff_true_intro fun y a=>by
 obtain ⟨x,_,rfl⟩:=List.mem_map.1 a
 simp +decide only [go_sem]
@[go_sem] theorem Zld (l:List (Vl)):(∀ y∈l.map C4,y.cells.length=6∧AA y=true)↔True:=iff_true_intro fun y a=>by
 obtain ⟨x,_,rfl⟩:=List.mem_map.1 a
 simp +decide only [go_sem]
@[go_sem] theorem ZhD (nb nr nl:Nat) (l:List (Vl)):(∀ y∈l.map C4,Under nb nr nl y)↔True:=iff_true_intro fun y a=>by
 obtain ⟨x,_,rfl⟩:=List.mem_map.1 a
 exact .agg (x.under _ _ _)
@[go_sem] theorem Zkg (l:List (Vl)):(l.map C4).map AV.pub=l.map C4:=by
 rw [List.map_map]
 refine List.map_congr_left fun x _=>?_
 simp +decide only [Function.comp,go_sem]
def EV (x:Ty):AV := .agg x.cs
@[go_sem] theorem Hm (x:Ty):EV x = .agg x.cs:=rfl
@[go_sem] theorem Zh1 (l:List (Ty)):(∀ y∈l.map EV,y.cells.length=7)↔True:=iff_true_intro fun y a=>by
 obtain ⟨x,_,rfl⟩:=List.mem_map.1 a
 simp +decide only [go_sem]
@[go_sem] theorem Zlq (l:List (Ty)):(∀ y∈l.map EV,y.cells.length=7∧AA y=true)↔True:=iff_true_intro fun y a=>by
 obtain ⟨x,_,rfl⟩:=List.mem_map.1 a
 simp +decide only [go_sem]
@[go_sem] theorem ZhX (nb nr nl:Nat) (l:List (Ty)):(∀ y∈l.map EV,Under nb nr nl y)↔True:=iff_true_intro fun y a=>by
 obtain ⟨x,_,rfl⟩:=List.mem_map.1 a
 exact .agg (x.under _ _ _)
@[go_sem] theorem ZkM (l:List (Ty)):(l.map EV).map AV.pub=l.map EV:=by
 rw [List.map_map]
 refine List.map_congr_left fun x _=>?_
 simp +decide only [Function.comp,go_sem]
def ID (x:ByteArray × Vl):AV := .agg (.val (.string x.1)::x.2.cs)
@[go_sem] theorem G5 (x:ByteArray × Vl):ID x = .agg (.val (.string x.1)::x.2.cs):=rfl
@[go_sem] theorem Zip (l:List (ByteArray × Vl)):(∀ y∈l.map ID,y.cells.length=7)↔True:=iff_true_intro fun y a=>by
 obtain ⟨x,_,rfl⟩:=List.mem_map.1 a
 simp +decide only [go_sem]
@[go_sem] theorem Zlo (l:List (ByteArray × Vl)):(∀ y∈l.map ID,y.cells.length=7∧AA y=true)↔True:=iff_true_intro fun y a=>by
 obtain ⟨x,_,rfl⟩:=List.mem_map.1 a
 simp +decide only [go_sem]
@[go_sem] theorem ZhT (nb nr nl:Nat) (l:List (ByteArray × Vl)):(∀ y∈l.map ID,Under nb nr nl y)↔True:=iff_true_intro fun y a=>by
 obtain ⟨x,_,rfl⟩:=List.mem_map.1 a
 exact HU nb nr nl [x] _ (by simp [Gz,ID])
@[go_sem] theorem Zka (l:List (ByteArray × Vl)):(l.map ID).map AV.pub=l.map ID:=by
 rw [List.map_map]
 refine List.map_congr_left fun x _=>?_
 simp +decide only [Function.comp,go_sem]
def FM (x:Int × ByteArray × Int × Ty × List Vl):AV := .agg (Ak x.1 :: .val (.string x.2.1)::Ak x.2.2.1::(x.2.2.2.1.cs++[.list (x.2.2.2.2.map C4) .none]))
@[go_sem] theorem FR (x:Int × ByteArray × Int × Ty × List Vl):FM x = .agg (Ak x.1 :: .val (.string x.2.1)::Ak x.2.2.1::(x.2.2.2.1.cs++[.list (x.2.2.2.2.map C4) .none])):=rfl
@[go_sem] theorem Zgc (l:List (Int × ByteArray × Int × Ty × List Vl)):(∀ y∈l.map FM,y.cells.length=11)↔True:=iff_true_intro fun y a=>by
 obtain ⟨x,_,rfl⟩:=List.mem_map.1 a
 simp +decide only [go_sem]
@[go_sem] theorem Zkv (l:List (Int × ByteArray × Int × Ty × List Vl)):(∀ y∈l.map FM,y.cells.length=11∧AA y=true)↔True:=iff_true_intro fun y a=>by
 obtain ⟨x,_,rfl⟩:=List.mem_map.1 a
 simp +decide only [go_sem]
@[go_sem] theorem Zhk (nb nr nl:Nat) (l:List (Int × ByteArray × Int × Ty × List Vl)):(∀ y∈l.map FM,Under nb nr nl y)↔True:=iff_true_intro fun y a=>by
 obtain ⟨x,_,rfl⟩:=List.mem_map.1 a
 exact GT nb nr nl [x] _ (by simp [Gq,FM,Dw];intros;rfl)
@[go_sem] theorem ZiR (l:List (Int × ByteArray × Int × Ty × List Vl)):(l.map FM).map AV.pub=l.map FM:=by
 rw [List.map_map]
 refine List.map_congr_left fun x _=>?_
 simp +decide only [Function.comp,go_sem]
def QX (x:Sch):AV := .agg (.val (.string x.name)::Ak x.version::x.type.cs)
@[go_sem] theorem D3 (x:Sch):QX x = .agg (.val (.string x.name)::Ak x.version::x.type.cs):=rfl
@[go_sem] theorem ZfI (l:List (Sch)):(∀ y∈l.map QX,y.cells.length=9)↔True:=iff_true_intro fun y a=>by
 obtain ⟨x,_,rfl⟩:=List.mem_map.1 a
 simp +decide only [go_sem]
@[go_sem] theorem Zjc (l:List (Sch)):(∀ y∈l.map QX,y.cells.length=9∧AA y=true)↔True:=iff_true_intro fun y a=>by
 obtain ⟨x,_,rfl⟩:=List.mem_map.1 a
 simp +decide only [go_sem]
@[go_sem] theorem ZfO (nb nr nl:Nat) (l:List (Sch)):(∀ y∈l.map QX,Under nb nr nl y)↔True:=iff_true_intro fun y a=>by
 obtain ⟨x,_,rfl⟩:=List.mem_map.1 a
 simp only [D3,DD,List.mem_cons,forall_eq_or_imp,FC,true_and];exact x.type.under _ _ _
@[go_sem] theorem Zig (l:List (Sch)):(l.map QX).map AV.pub=l.map QX:=by
 rw [List.map_map]
 refine List.map_congr_left fun x _=>?_
 simp +decide only [Function.comp,go_sem]
def Qf (x:Itm):AV := .agg (x.v.cs++[Ak x.level])
@[go_sem] theorem D9 (x:Itm):Qf x = .agg (x.v.cs++[Ak x.level]):=rfl
@[go_sem] theorem Zfw (l:List (Itm)):(∀ y∈l.map Qf,y.cells.length=7)↔True:=iff_true_intro fun y a=>by
 obtain ⟨x,_,rfl⟩:=List.mem_map.1 a
 simp +decide only [go_sem]
@[go_sem] theorem Zi6 (l:List (Itm)):(∀ y∈l.map Qf,y.cells.length=7∧AA y=true)↔True:=iff_true_intro fun y a=>by
 obtain ⟨x,_,rfl⟩:=List.mem_map.1 a
 simp +decide only [go_sem]
@[go_sem] theorem ZeZ (nb nr nl:Nat) (l:List (Itm)):(∀ y∈l.map Qf,Under nb nr nl y)↔True:=iff_true_intro fun y a=>by
 obtain ⟨x,_,rfl⟩:=List.mem_map.1 a
 simp only [D9,DD,List.mem_append,List.mem_singleton];rintro z (hz | rfl);exact x.v.under _ _ _ z hz;exact .val _
@[go_sem] theorem Zh9 (l:List (Itm)):(l.map Qf).map AV.pub=l.map Qf:=by
 rw [List.map_map]
 refine List.map_congr_left fun x _=>?_
 simp +decide only [Function.comp,go_sem]
def XT (x:Lim):AV := .agg [.val (.string x.name),Ak x.low,Ak x.high,.val (.bool x.bounds),.val (.bool x.scale),.val (.bool x.text),.val (.bool x.list),.val (.bool x.fields)]
@[go_sem] theorem Gf (x:Lim):XT x = .agg [.val (.string x.name),Ak x.low,Ak x.high,.val (.bool x.bounds),.val (.bool x.scale),.val (.bool x.text),.val (.bool x.list),.val (.bool x.fields)]:=rfl
@[go_sem] theorem Zgu (l:List (Lim)):(∀ y∈l.map XT,y.cells.length=8)↔True:=iff_true_intro fun y a=>by
 obtain ⟨x,_,rfl⟩:=List.mem_map.1 a
 simp +decide only [go_sem]
@[go_sem] theorem ZkQ (l:List (Lim)):(∀ y∈l.map XT,y.cells.length=8∧AA y=true)↔True:=iff_true_intro fun y a=>by
 obtain ⟨x,_,rfl⟩:=List.mem_map.1 a
 simp +decide only [go_sem]
@[go_sem] theorem Zgg (nb nr nl:Nat) (l:List (Lim)):(∀ y∈l.map XT,Under nb nr nl y)↔True:=iff_true_intro fun y a=>by
 obtain ⟨x,_,rfl⟩:=List.mem_map.1 a
 simp +decide only [go_sem];try intro z b;simp_all [Vl.under,Ty.under]
@[go_sem] theorem ZiC (l:List (Lim)):(l.map XT).map AV.pub=l.map XT:=by
 rw [List.map_map]
 refine List.map_congr_left fun x _=>?_
 simp +decide only [Function.comp,go_sem]
def XO (x:ByteArray × Int):AV := .agg [.val (.string x.1),Ak x.2]
@[go_sem] theorem F2 (x:ByteArray × Int):XO x = .agg [.val (.string x.1),Ak x.2]:=rfl
@[go_sem] theorem Zgr (l:List (ByteArray × Int)):(∀ y∈l.map XO,y.cells.length=2)↔True:=iff_true_intro fun y a=>by
 obtain ⟨x,_,rfl⟩:=List.mem_map.1 a
 simp +decide only [go_sem]
@[go_sem] theorem ZkY (l:List (ByteArray × Int)):(∀ y∈l.map XO,y.cells.length=2∧AA y=true)↔True:=iff_true_intro fun y a=>by
 obtain ⟨x,_,rfl⟩:=List.mem_map.1 a
 simp +decide only [go_sem]
@[go_sem] theorem Zg1 (nb nr nl:Nat) (l:List (ByteArray × Int)):(∀ y∈l.map XO,Under nb nr nl y)↔True:=iff_true_intro fun y a=>by
 obtain ⟨x,_,rfl⟩:=List.mem_map.1 a
 simp +decide only [go_sem];try intro z b;simp_all [Vl.under,Ty.under]
@[go_sem] theorem ZjQ (l:List (ByteArray × Int)):(l.map XO).map AV.pub=l.map XO:=by
 rw [List.map_map]
 refine List.map_congr_left fun x _=>?_
 simp +decide only [Function.comp,go_sem]
def XI (x:Ty × Ty):AV := .agg (x.1.cs++x.2.cs)
@[go_sem] theorem FV (x:Ty × Ty):XI x = .agg (x.1.cs++x.2.cs):=rfl
@[go_sem] theorem Zge (l:List (Ty × Ty)):(∀ y∈l.map XI,y.cells.length=14)↔True:=iff_true_intro fun y a=>by
 obtain ⟨x,_,rfl⟩:=List.mem_map.1 a
 simp +decide only [go_sem]
@[go_sem] theorem Zk1 (l:List (Ty × Ty)):(∀ y∈l.map XI,y.cells.length=14∧AA y=true)↔True:=iff_true_intro fun y a=>by
 obtain ⟨x,_,rfl⟩:=List.mem_map.1 a
 simp +decide only [go_sem]
@[go_sem] theorem Zgh (nb nr nl:Nat) (l:List (Ty × Ty)):(∀ y∈l.map XI,Under nb nr nl y)↔True:=iff_true_intro fun y b=>by
 obtain ⟨x,_,rfl⟩:=List.mem_map.1 b
 exact .agg fun z a=>(List.mem_append.1 a).elim (x.1.under _ _ _ z) (x.2.under _ _ _ z)
@[go_sem] theorem Zj7 (l:List (Ty × Ty)):(l.map XI).map AV.pub=l.map XI:=by
 rw [List.map_map]
 refine List.map_congr_left fun x _=>?_
 simp +decide only [Function.comp,go_sem]
def OY (x:Part):AV := .agg [Ak x.kind,Ak x.index,.val (.string x.name)]
@[go_sem] theorem FX (x:Part):OY x = .agg [Ak x.kind,Ak x.index,.val (.string x.name)]:=rfl
@[go_sem] theorem ZgX (l:List (Part)):(∀ y∈l.map OY,y.cells.length=3)↔True:=iff_true_intro fun y a=>by
 obtain ⟨x,_,rfl⟩:=List.mem_map.1 a
 simp +decide only [go_sem]
@[go_sem] theorem Zkb (l:List (Part)):(∀ y∈l.map OY,y.cells.length=3∧AA y=true)↔True:=iff_true_intro fun y a=>by
 obtain ⟨x,_,rfl⟩:=List.mem_map.1 a
 simp +decide only [go_sem]
@[go_sem] theorem Zhb (nb nr nl:Nat) (l:List (Part)):(∀ y∈l.map OY,Under nb nr nl y)↔True:=iff_true_intro fun y a=>by
 obtain ⟨x,_,rfl⟩:=List.mem_map.1 a
 simp +decide only [go_sem];try intro z b;simp_all [Vl.under,Ty.under]
@[go_sem] theorem ZjS (l:List (Part)):(l.map OY).map AV.pub=l.map OY:=by
 rw [List.map_map]
 refine List.map_congr_left fun x _=>?_
 simp +decide only [Function.comp,go_sem]
def GM (x:Ex):AV := .agg x.cs
@[go_sem] theorem Hg (x:Ex):GM x = .agg x.cs:=rfl
@[go_sem] theorem ZhK (l:List (Ex)):(∀ y∈l.map GM,y.cells.length=5)↔True:=iff_true_intro fun y a=>by
 obtain ⟨x,_,rfl⟩:=List.mem_map.1 a
 simp +decide only [go_sem]
@[go_sem] theorem ZlK (l:List (Ex)):(∀ y∈l.map GM,y.cells.length=5∧AA y=true)↔True:=iff_true_intro fun y a=>by
 obtain ⟨x,_,rfl⟩:=List.mem_map.1 a
 simp +decide only [go_sem]
@[go_sem] theorem Zif (nb nr nl:Nat) (l:List (Ex)):(∀ y∈l.map GM,Under nb nr nl y)↔True:=iff_true_intro fun y a=>by
 obtain ⟨x,_,rfl⟩:=List.mem_map.1 a
 exact .agg (x.under _ _ _)
@[go_sem] theorem Zko (l:List (Ex)):(l.map GM).map AV.pub=l.map GM:=by
 rw [List.map_map]
 refine List.map_congr_left fun x _=>?_
 simp +decide only [Function.comp,go_sem]
def BH (x:ByteArray × Ex):AV := .agg (.val (.string x.1)::x.2.cs)
@[go_sem] theorem FQ (x:ByteArray × Ex):BH x = .agg (.val (.string x.1)::x.2.cs):=rfl
@[go_sem] theorem Zf6 (l:List (ByteArray × Ex)):(∀ y∈l.map BH,y.cells.length=6)↔True:=iff_true_intro fun y a=>by
 obtain ⟨x,_,rfl⟩:=List.mem_map.1 a
 simp +decide only [go_sem]
@[go_sem] theorem ZkJ (l:List (ByteArray × Ex)):(∀ y∈l.map BH,y.cells.length=6∧AA y=true)↔True:=iff_true_intro fun y a=>by
 obtain ⟨x,_,rfl⟩:=List.mem_map.1 a
 simp +decide only [go_sem]
@[go_sem] theorem Zg5 (nb nr nl:Nat) (l:List (ByteArray × Ex)):(∀ y∈l.map BH,Under nb nr nl y)↔True:=iff_true_intro fun y b=>by
 obtain ⟨x,_,rfl⟩:=List.mem_map.1 b
 exact .agg fun z a=>(List.mem_cons.1 a).elim (fun e=>e ▸ .val _) (x.2.under _ _ _ z)
@[go_sem] theorem ZiS (l:List (ByteArray × Ex)):(l.map BH).map AV.pub=l.map BH:=by
 rw [List.map_map]
 refine List.map_congr_left fun x _=>?_
 simp +decide only [Function.comp,go_sem]
def avM (x:List (ByteArray × Ex)):AV := .agg [.list (x.map BH) .none]
@[go_sem] theorem He (x:List (ByteArray × Ex)):avM x = .agg [.list (x.map BH) .none]:=rfl
@[go_sem] theorem ZhV (l:List (List (ByteArray × Ex))):(∀ y∈l.map avM,y.cells.length=1)↔True:=iff_true_intro fun y a=>by
 obtain ⟨x,_,rfl⟩:=List.mem_map.1 a
 simp +decide only [go_sem]
@[go_sem] theorem ZlI (l:List (List (ByteArray × Ex))):(∀ y∈l.map avM,y.cells.length=1∧AA y=true)↔True:=iff_true_intro fun y a=>by
 obtain ⟨x,_,rfl⟩:=List.mem_map.1 a
 simp +decide only [go_sem]
@[go_sem] theorem Zh7 (nb nr nl:Nat) (l:List (List (ByteArray × Ex))):(∀ y∈l.map avM,Under nb nr nl y)↔True:=iff_true_intro fun y a=>by
 obtain ⟨x,_,rfl⟩:=List.mem_map.1 a
 simp +decide only [go_sem]
@[go_sem] theorem Zk2 (l:List (List (ByteArray × Ex))):(l.map avM).map AV.pub=l.map avM:=by
 rw [List.map_map]
 refine List.map_congr_left fun x _=>?_
 simp +decide only [Function.comp,go_sem]
def B7 (x:Msg):AV := .agg (Ak x.stamp.1 :: .list (x.stamp.2.map BG) .none::Ak x.mass :: .list (x.origins.map BG) .none::x.body.cs)
@[go_sem] theorem ZeJ (x:Msg):B7 x = .agg (Ak x.stamp.1 :: .list (x.stamp.2.map BG) .none::Ak x.mass :: .list (x.origins.map BG) .none::x.body.cs):=rfl
@[go_sem] theorem Zg8 (l:List (Msg)):(∀ y∈l.map B7,y.cells.length=10)↔True:=iff_true_intro fun y a=>by
 obtain ⟨x,_,rfl⟩:=List.mem_map.1 a
 simp +decide only [go_sem]
@[go_sem] theorem ZkK (l:List (Msg)):(∀ y∈l.map B7,y.cells.length=10∧AA y=true)↔True:=iff_true_intro fun y a=>by
 obtain ⟨x,_,rfl⟩:=List.mem_map.1 a
 simp +decide only [go_sem]
@[go_sem] theorem Zgl (nb nr nl:Nat) (l:List (Msg)):(∀ y∈l.map B7,Under nb nr nl y)↔True:=iff_true_intro fun y a=>by
 obtain ⟨x,_,rfl⟩:=List.mem_map.1 a
 simp only [ZeJ,DD,List.mem_cons,List.mem_append,List.not_mem_nil,or_false,forall_eq_or_imp,or_imp,forall_and,forall_eq,FC,true_and,and_true,Vl.under_mem0 nb nr nl,Ty.under_mem0 nb nr nl];all_goals simp +decide only [go_sem]
@[go_sem] theorem ZjJ (l:List (Msg)):(l.map B7).map AV.pub=l.map B7:=by
 rw [List.map_map]
 refine List.map_congr_left fun x _=>?_
 simp +decide only [Function.comp,go_sem]
def BF (x:Slt):AV := .agg (x.key.cs++[Ak x.number,Ak x.time,.list (x.items.map B7) .none,.list (x.values.map C4) .none])
@[go_sem] theorem Zee (x:Slt):BF x = .agg (x.key.cs++[Ak x.number,Ak x.time,.list (x.items.map B7) .none,.list (x.values.map C4) .none]):=rfl
@[go_sem] theorem ZgJ (l:List (Slt)):(∀ y∈l.map BF,y.cells.length=10)↔True:=iff_true_intro fun y a=>by
 obtain ⟨x,_,rfl⟩:=List.mem_map.1 a
 simp +decide only [go_sem]
@[go_sem] theorem ZkO (l:List (Slt)):(∀ y∈l.map BF,y.cells.length=10∧AA y=true)↔True:=iff_true_intro fun y a=>by
 obtain ⟨x,_,rfl⟩:=List.mem_map.1 a
 simp +decide only [go_sem]
@[go_sem] theorem ZgL (nb nr nl:Nat) (l:List (Slt)):(∀ y∈l.map BF,Under nb nr nl y)↔True:=iff_true_intro fun y a=>by
 obtain ⟨x,_,rfl⟩:=List.mem_map.1 a
 simp only [Zee,DD,List.mem_cons,List.mem_append,List.not_mem_nil,or_false,forall_eq_or_imp,or_imp,forall_and,forall_eq,FC,true_and,and_true,Vl.under_mem0 nb nr nl,Ty.under_mem0 nb nr nl];all_goals simp +decide only [go_sem]
@[go_sem] theorem ZiQ (l:List (Slt)):(l.map BF).map AV.pub=l.map BF:=by
 rw [List.map_map]
 refine List.map_congr_left fun x _=>?_
 simp +decide only [Function.comp,go_sem]
def VU (x:Stt):AV := .agg [Ak x.number,Ak x.time,.list (x.slots.map BF) .none]
@[go_sem] theorem WE (x:Stt):VU x = .agg [Ak x.number,Ak x.time,.list (x.slots.map BF) .none]:=rfl
@[go_sem] theorem Zhg (l:List (Stt)):(∀ y∈l.map VU,y.cells.length=3)↔True:=iff_true_intro fun y a=>by
 obtain ⟨x,_,rfl⟩:=List.mem_map.1 a
 simp +decide only [go_sem]
@[go_sem] theorem Zku (l:List (Stt)):(∀ y∈l.map VU,y.cells.length=3∧AA y=true)↔True:=iff_true_intro fun y a=>by
 obtain ⟨x,_,rfl⟩:=List.mem_map.1 a
 simp +decide only [go_sem]
@[go_sem] theorem ZfZ (nb nr nl:Nat) (l:List (Stt)):(∀ y∈l.map VU,Under nb nr nl y)↔True:=iff_true_intro fun y a=>by
 obtain ⟨x,_,rfl⟩:=List.mem_map.1 a
 simp only [WE,DD,List.mem_cons,List.mem_append,List.not_mem_nil,or_false,forall_eq_or_imp,or_imp,forall_and,forall_eq,FC,true_and,and_true,Vl.under_mem0 nb nr nl,Ty.under_mem0 nb nr nl];all_goals simp +decide only [go_sem]
@[go_sem] theorem ZjF (l:List (Stt)):(l.map VU).map AV.pub=l.map VU:=by
 rw [List.map_map]
 refine List.map_congr_left fun x _=>?_
 simp +decide only [Function.comp,go_sem]
def CX (x:ByteArray × List (ByteArray × Ex)):AV := .agg [.val (.string x.1),.list (x.2.map BH) .none]
@[go_sem] theorem Zdi (x:ByteArray × List (ByteArray × Ex)):CX x = .agg [.val (.string x.1),.list (x.2.map BH) .none]:=rfl
@[go_sem] theorem ZgB (l:List (ByteArray × List (ByteArray × Ex))):(∀ y∈l.map CX,y.cells.length=2)↔True:=iff_true_intro fun y a=>by
 obtain ⟨x,_,rfl⟩:=List.mem_map.1 a
 simp +decide only [go_sem]
@[go_sem] theorem ZkX (l:List (ByteArray × List (ByteArray × Ex))):(∀ y∈l.map CX,y.cells.length=2∧AA y=true)↔True:=iff_true_intro fun y a=>by
 obtain ⟨x,_,rfl⟩:=List.mem_map.1 a
 simp +decide only [go_sem]
@[go_sem] theorem Zhv (nb nr nl:Nat) (l:List (ByteArray × List (ByteArray × Ex))):(∀ y∈l.map CX,Under nb nr nl y)↔True:=iff_true_intro fun y a=>by
 obtain ⟨x,_,rfl⟩:=List.mem_map.1 a
 simp only [Zdi,DD,List.mem_cons,List.mem_append,List.not_mem_nil,or_false,forall_eq_or_imp,or_imp,forall_and,forall_eq,FC,true_and,and_true,Vl.under_mem0 nb nr nl,Ty.under_mem0 nb nr nl];all_goals simp +decide only [go_sem]
@[go_sem] theorem Zje (l:List (ByteArray × List (ByteArray × Ex))):(l.map CX).map AV.pub=l.map CX:=by
 rw [List.map_map]
 refine List.map_congr_left fun x _=>?_
 simp +decide only [Function.comp,go_sem]
def Vq (x:Nod):AV := .agg (.val (.string x.name)::Ak x.kind::Ak x.schema::Ak x.result::Ak x.number::Ak x.time::Ak x.limit :: .val (.string x.text)::(x.type.cs++[.list (x.types.map EV) .none,.list (x.exprs.map GM) .none,.list (x.mapping.map BH) .none,.list (x.calls.map CX) .none,.list (x.next.map BG) .none]))
@[go_sem] theorem W8 (x:Nod):Vq x = .agg (.val (.string x.name)::Ak x.kind::Ak x.schema::Ak x.result::Ak x.number::Ak x.time::Ak x.limit :: .val (.string x.text)::(x.type.cs++[.list (x.types.map EV) .none,.list (x.exprs.map GM) .none,.list (x.mapping.map BH) .none,.list (x.calls.map CX) .none,.list (x.next.map BG) .none])):=rfl
@[go_sem] theorem Zf0 (l:List (Nod)):(∀ y∈l.map Vq,y.cells.length=20)↔True:=iff_true_intro fun y a=>by
 obtain ⟨x,_,rfl⟩:=List.mem_map.1 a
 simp +decide only [go_sem]
@[go_sem] theorem Zkh (l:List (Nod)):(∀ y∈l.map Vq,y.cells.length=20∧AA y=true)↔True:=iff_true_intro fun y a=>by
 obtain ⟨x,_,rfl⟩:=List.mem_map.1 a
 simp +decide only [go_sem]
@[go_sem] theorem Zf4 (nb nr nl:Nat) (l:List (Nod)):(∀ y∈l.map Vq,Under nb nr nl y)↔True:=iff_true_intro fun y a=>by
 obtain ⟨x,_,rfl⟩:=List.mem_map.1 a
 simp only [W8,DD,List.mem_cons,List.mem_append,List.not_mem_nil,or_false,forall_eq_or_imp,or_imp,forall_and,forall_eq,FC,true_and,and_true,Vl.under_mem0 nb nr nl,Ty.under_mem0 nb nr nl];all_goals simp +decide only [go_sem]
@[go_sem] theorem ZiJ (l:List (Nod)):(l.map Vq).map AV.pub=l.map Vq:=by
 rw [List.map_map]
 refine List.map_congr_left fun x _=>?_
 simp +decide only [Function.comp,go_sem]
def P5 (x:Int × ByteArray × Bool):AV := .agg [Ak x.1,.val (.string x.2.1),.val (.bool x.2.2)]
@[go_sem] theorem Zem (x:Int × ByteArray × Bool):P5 x = .agg [Ak x.1,.val (.string x.2.1),.val (.bool x.2.2)]:=rfl
@[go_sem] theorem Zf5 (l:List (Int × ByteArray × Bool)):(∀ y∈l.map P5,y.cells.length=3)↔True:=iff_true_intro fun y a=>by
 obtain ⟨x,_,rfl⟩:=List.mem_map.1 a
 simp +decide only [go_sem]
@[go_sem] theorem Zkt (l:List (Int × ByteArray × Bool)):(∀ y∈l.map P5,y.cells.length=3∧AA y=true)↔True:=iff_true_intro fun y a=>by
 obtain ⟨x,_,rfl⟩:=List.mem_map.1 a
 simp +decide only [go_sem]
@[go_sem] theorem ZgV (nb nr nl:Nat) (l:List (Int × ByteArray × Bool)):(∀ y∈l.map P5,Under nb nr nl y)↔True:=iff_true_intro fun y a=>by
 obtain ⟨x,_,rfl⟩:=List.mem_map.1 a
 simp only [Zem,DD,List.mem_cons,List.mem_append,List.not_mem_nil,or_false,forall_eq_or_imp,or_imp,forall_and,forall_eq,FC,true_and,and_true,Vl.under_mem0 nb nr nl,Ty.under_mem0 nb nr nl];all_goals simp +decide only [go_sem]
@[go_sem] theorem Zji (l:List (Int × ByteArray × Bool)):(l.map P5).map AV.pub=l.map P5:=by
 rw [List.map_map]
 refine List.map_congr_left fun x _=>?_
 simp +decide only [Function.comp,go_sem]
@[go_sem] theorem ZfT (l:List (List Part)):(∀ y∈l.map (U2 OY),y.cells.length=1)↔True:=iff_true_intro fun y a=>by
 obtain ⟨x,_,rfl⟩:=List.mem_map.1 a
 simp +decide only [go_sem]
@[go_sem] theorem Zjf (l:List (List Part)):(∀ y∈l.map (U2 OY),y.cells.length=1∧AA y=true)↔True:=iff_true_intro fun y a=>by
 obtain ⟨x,_,rfl⟩:=List.mem_map.1 a
 simp +decide only [go_sem]
@[go_sem] theorem Ze6 (nb nr nl:Nat) (l:List (List Part)):(∀ y∈l.map (U2 OY),Under nb nr nl y)↔True:=iff_true_intro fun y a=>by
 obtain ⟨x,_,rfl⟩:=List.mem_map.1 a
 simp +decide only [go_sem]
@[go_sem] theorem Zh6 (l:List (List Part)):(l.map (U2 OY)).map AV.pub=l.map (U2 OY):=by
 rw [List.map_map]
 refine List.map_congr_left fun x _=>?_
 simp +decide only [Function.comp,go_sem]
@[go_sem] theorem Zhd (l:List (List ByteArray)):(∀ y∈l.map (U2 IL),y.cells.length=1)↔True:=iff_true_intro fun y a=>by
 obtain ⟨x,_,rfl⟩:=List.mem_map.1 a
 simp +decide only [go_sem]
@[go_sem] theorem ZkV (l:List (List ByteArray)):(∀ y∈l.map (U2 IL),y.cells.length=1∧AA y=true)↔True:=iff_true_intro fun y a=>by
 obtain ⟨x,_,rfl⟩:=List.mem_map.1 a
 simp +decide only [go_sem]
@[go_sem] theorem Zhy (nb nr nl:Nat) (l:List (List ByteArray)):(∀ y∈l.map (U2 IL),Under nb nr nl y)↔True:=iff_true_intro fun y a=>by
 obtain ⟨x,_,rfl⟩:=List.mem_map.1 a
 simp +decide only [go_sem]
@[go_sem] theorem ZiN (l:List (List ByteArray)):(l.map (U2 IL)).map AV.pub=l.map (U2 IL):=by
 rw [List.map_map]
 refine List.map_congr_left fun x _=>?_
 simp +decide only [Function.comp,go_sem]
@[go_sem] theorem Zhn (l:List (List Int)):(∀ y∈l.map (U2 BG),y.cells.length=1)↔True:=iff_true_intro fun y a=>by
 obtain ⟨x,_,rfl⟩:=List.mem_map.1 a
 simp +decide only [go_sem]
@[go_sem] theorem Zj8 (l:List (List Int)):(∀ y∈l.map (U2 BG),y.cells.length=1∧AA y=true)↔True:=iff_true_intro fun y a=>by
 obtain ⟨x,_,rfl⟩:=List.mem_map.1 a
 simp +decide only [go_sem]
@[go_sem] theorem Zgs (nb nr nl:Nat) (l:List (List Int)):(∀ y∈l.map (U2 BG),Under nb nr nl y)↔True:=iff_true_intro fun y a=>by
 obtain ⟨x,_,rfl⟩:=List.mem_map.1 a
 simp +decide only [go_sem]
@[go_sem] theorem Ziv (l:List (List Int)):(l.map (U2 BG)).map AV.pub=l.map (U2 BG):=by
 rw [List.map_map]
 refine List.map_congr_left fun x _=>?_
 simp +decide only [Function.comp,go_sem]
@[go_sem] theorem Zbn (l:List Ex):JC l=l.map GM:=JX l
@[go_sem] theorem Ex.under_mem (nb nr nl:Nat) (v:Ex):(∀ x∈v.cs,Under nb nr nl x)↔True:=iff_true_intro (v.under nb nr nl)
theorem Ex.cs_eqs (v:Ex):v.cs=[Ak v.op,Ak v.int,.val (.string v.text),.list (v.value.map C4) .none,.list (v.args.map GM) .none]:=by
 cases v;rw [Ex.cs,Dw,JX];rfl
@[go_sem] theorem Ex.cs_mks (o i:Int) (t:ByteArray) (v:List Vl) (a:List Ex):(Ex.mk o i t v a).cs=[Ak o,Ak i,.val (.string t),.list (v.map C4) .none,.list (a.map GM) .none]:=Ex.cs_eqs _
@[go_sem] theorem Lt (l:List Vl):Da l=l.map C4:=Dw l
@[go_sem] theorem Up (l:List Ty):Jf l=l.map EV:=MC l
@[go_sem] theorem UP (l:List (ByteArray × Vl)):Gz l=l.map ID:=JZ l
@[go_sem] theorem Qn (l:List (Int × ByteArray × Int × Ty × List Vl)):Gq l=l.map FM:=by
 rw [KI]
 refine List.map_congr_left fun x _=>?_
 rw [Lt];rfl
@[go_sem] theorem YR (l:List ByteArray):(l.map fun x=>AV.val (.string x))=l.map IL:=rfl
@[go_sem] theorem Vl.under_mem (nb nr nl:Nat) (v:Vl):(∀ x∈v.cs,Under nb nr nl x)↔True:=iff_true_intro (v.under nb nr nl)
@[go_sem] theorem Ty.under_mem (nb nr nl:Nat) (v:Ty):(∀ x∈v.cs,Under nb nr nl x)↔True:=iff_true_intro (v.under nb nr nl)
@[go_sem] theorem ZfM {α:Type} (p:α→Prop) (l m:List α):(∀ x∈l++m,p x)↔(∀ x∈l,p x)∧∀ x∈m,p x:=List.forall_mem_append
theorem rt {α:Type} {x r:α} {F G C p:Prop} (h:some x=some r) (f:F) (hcalm:C) (hO:G) (k:some x=some r→F→C→G→p:=by
  intro h hs hcalm hO
  apply Bz;simp +decide only [go_sem,Nat.reduceAdd,hs]
  have hgt:=Option.some.inj h;subst hgt
  first | refine R7 hcalm rfl hO.pre (by simp +decide only [go_sem,Nat.reduceAdd]) ⟨?_,?_⟩ | refine TK hcalm rfl hO.pre (by simp +decide only [go_sem,Nat.reduceAdd]) ⟨?_,?_⟩
  all_goals first | rfl | (simp +decide only [go_sem,Nat.reduceAdd,hs];done) | (simp +decide only [go_sem,Nat.reduceAdd,Vl.cs,Ty.cs,hs];done)):p:=k h f hcalm hO
theorem hv {p F:Prop} (f:F) (h:F→p:=by intro hs;first | rfl | (simp +decide only [go_sem,Nat.reduceAdd,hs];done) | (simp +decide only [go_sem,Nat.reduceAdd,Vl.cs,Ty.cs,hs];done)):p:=h f
theorem Ty.cs_eqs (t:Ty):t.cs=[Ak t.kind,Ak t.min,Ak t.max,Ak t.scale,.list (t.words.map IL) .none,.list (t.elem.map EV) .none,.list (t.fields.map FM) .none]:=by
 cases t;rw [Ty.cs,Up,Qn];rfl
theorem Vl.cs_eqs (v:Vl):v.cs=[Ak v.kind,Ak v.int,Ak v.scale,.val (.string v.text),.list (v.list.map C4) .none,.list (v.fields.map ID) .none]:=by
 rw [v.cs_eq,Lt,UP]
theorem OD (w0:World) (B:Aq) (Rw:Au) (L:Av) (hT:Lib.Utf8Tabs 1 2 w0) (s:ByteArray) (hs:s.size≤maxLen) :
  ACalls Tryz.prog w0 115 [.val (.string s)] ⟨B,Rw,L⟩ fun v s'=>v = .val (.bool (Lib.validD s.data.toList))∧s'=⟨B,Rw,L⟩:=Ya w0 _ hT s hs
theorem IG (w0:World) (B:Aq) (Rw:Au) (L:Av) (a b:ByteArray) :
  ACalls Tryz.prog w0 64 [.val (.string a),.val (.string b)] ⟨B,Rw,L⟩ fun v s'=>v=Ak (Q3 a b)∧s'=⟨B,Rw,L⟩:=S5 w0 _ a b
attribute [go_sem] Ni fillOk G7 Nat.mul_one Nat.zero_add Nat.add_zero Option.isSome_some List.getElem?_cons_zero List.getElem?_cons_succ
abbrev ALp:Prop:=(∀ (α:Type) (l m:List α),List.append l m=l++m)∧(∀ (α:Type) (a:α) (l m:List α),(a::l)++m=a::(l++m))∧∀ (α:Type) (l:List α),[]++l=l
theorem al {F:Prop} (h:F):ALp∧F:=⟨⟨fun _ _ _=>rfl,fun _ _ _ _=>rfl,fun _ _=>rfl⟩,h⟩
theorem Vl.cs_mks (k i s:Int) (t:ByteArray) (l:List Vl) (f:List (ByteArray × Vl)):(Vl.mk k i s t l f).cs=[Ak k,Ak i,Ak s,.val (.string t),.list (l.map C4) .none,.list (f.map ID) .none]:=Vl.cs_eqs _
theorem Ty.cs_mks (a b c d:Int) (w:List ByteArray) (e:List Ty) (f:List (Int × ByteArray × Int × Ty × List Vl)):(Ty.mk a b c d w e f).cs=[Ak a,Ak b,Ak c,Ak d,.list (w.map IL) .none,.list (e.map EV) .none,.list (f.map FM) .none]:=Ty.cs_eqs _
theorem Et {p:Prop} (h:p:=by first | rfl | simp only [List.length_append,List.length_cons,List.length_nil,List.length_map,Nat.zero_add,Nat.add_zero]):p:=h
theorem ls_ {p:Prop} (h:p:=by simp only [List.length_set]):p:=h
theorem kr {p:Prop} (h:p:=by kernel_rfl):p:=h
theorem px {p:Prop} (h:p:=by first | exact List.prefix_append _ _ | exact List.prefix_refl _):p:=h
theorem ap_ {p:Prop} (h:p:=by simp only [List.append_assoc,List.cons_append,List.nil_append]):p:=h
theorem nq {p:Prop} (h:p:=by first | assumption | omega | (simp only [List.length_set] at *; omega)):p:=h
theorem QU {p V:Prop} {Rw rows:List RowA} {l:List (Nat × Nat × Ev.Own)} {ho:Ev.Own} {v:List VE} (u:V) (hO:Owns Rw rows l ho v) (h:V→Rw.length≤rows.length→p:=by
  intro u hl
  (simp +decide only [go_sem,Nat.reduceAdd,GH])<;>(try (repeat' apply Ad))<;>first | omega | assumption | exact u _ _ _ (by omega) (by omega) (by omega)):p:=h u hO.len
theorem ln {p:Prop} {Rw rows Rw' rows':List RowA} {l l':List (Nat × Nat × Ev.Own)} {ho ho':Ev.Own} {v v':List VE} (h1:Owns Rw rows l ho v) (h2:Owns Rw' rows' l' ho' v') (h:Rw.length≤rows.length→Rw'.length≤rows'.length→p:=by intro _ _;first | exact Nat.le_refl _ | omega):p:=h h1.len h2.len
theorem dl {F p q:Prop} (m c1 c2:Nat) (L:List Nat) (f:F) {P:Program} (hm:P.follows .mixedOrders=true) {A K:Env→St→Prop} (hK:∀ e s,A e s→K e s) (k:q) (h:Tg (m,c1,c2,L)→F→P.follows .mixedOrders=true→(∀ e s,A e s→K e s)→q→p:=by
  intro tt hs hm hK hq
  refine Qc tt hm (by kernel_rfl) ?_
  rw [Ao];simp +decide only [go_sem,Nat.reduceAdd,hs]
  (repeat' with_reducible apply Ad)<;>first | (rw [Ao];simp +decide only [go_sem,Nat.reduceAdd,hs]) | (clear hq;exact cl)
  first | (refine hK _ _ ?_;exact hq) | ((repeat' apply Ad)<;>first | (refine hK _ _ ?_;exact hq) | (clear hq;exact cl))):p:=h tg f hm hK k
theorem dk {F p q:Prop} (m c1 c2:Nat) (L:List Nat) (f:F) {P:Program} (hm:P.follows .mixedOrders=true) (k:q) (h:Tg (m,c1,c2,L)→F→P.follows .mixedOrders=true→q→p:=by
  intro tt hs hm hq
  refine Qc tt hm (by kernel_rfl) ?_
  rw [Ao];simp +decide only [go_sem,Nat.reduceAdd,hs]
  first | (refine GK ?_;exact hq) | ((repeat' apply Ad)<;>first | (refine GK ?_;exact hq) | (clear hq;exact cl))):p:=h tg f hm k
theorem dn {F p q:Prop} (f:F) {A K:Env→St→Prop} (hK:∀ e s,A e s→K e s) (k:q) (h:F→(∀ e s,A e s→K e s)→q→p:=by
  intro hs hK hq
  rw [Ao];simp +decide only [go_sem,Nat.reduceAdd,hs]
  (repeat' with_reducible apply Ad)<;>first | (rw [Ao];simp +decide only [go_sem,Nat.reduceAdd,hs]) | (clear hq;exact cl)
  first | (refine hK _ _ ?_;exact hq) | ((repeat' apply Ad)<;>first | (refine hK _ _ ?_;exact hq) | (clear hq;exact cl))):p:=h f hK k
theorem rT {α:Type} {x r:α} {F G C p:Prop} (h:x=r) (f:F) (hcalm:C) (hO:G) (k:x=r→F→C→G→p:=by
  intro h hs hcalm hO
  apply Bz;simp +decide only [go_sem,Nat.reduceAdd,hs]
  subst h
  first | refine R7 hcalm rfl hO.pre (by simp +decide only [go_sem,Nat.reduceAdd]) ⟨?_,rfl⟩ | refine TK hcalm rfl hO.pre (by simp +decide only [go_sem,Nat.reduceAdd]) ⟨?_,rfl⟩
  first | rfl | (simp +decide only [go_sem,Nat.reduceAdd,hs];done) | (simp +decide only [go_sem,Nat.reduceAdd,Vl.cs,Ty.cs,hs];done)):p:=k h f hcalm hO
end Go.Proofs.YtcdnijfbfdnjlaaGreatDoor
namespace Go.Ev
open Go Go.RowKit Go.Shelf
section
variable {P:Program} {w0:World} {st:St}
def ZaM (P:Program) (t:TypeId) (size bytes:Nat):Bool :=
 match P.info? t with
 | some i=>(i.size == size)&&(i.bytes == bytes)&&(match i.zero with | some z=>z.cells.size == size | none=>false)
 | none=>false
theorem Wa {t:TypeId} {size bytes:Nat} (h:ZaM P t size bytes=true):∃ i0 z,P.info? t=some i0∧i0.zero=some z∧i0.size=size∧i0.bytes=bytes∧z.cells.size=size:=by
 unfold ZaM at h
 cases hi:P.info? t with
 | none=>simp [hi] at h
 | some i =>
  simp only [hi,Bool.and_eq_true,beq_iff_eq] at h
  cases hz:i.zero with
  | none=>simp [hz] at h
  | some z =>
   simp only [hz,beq_iff_eq] at h
   exact ⟨i,z,rfl,hz,h.1.1,h.1.2,h.2⟩
end
def Jm (n:Nat) (rows:Au):Own:=if n=0 then .full else .row rows.length
def ME (n sz:Nat) (rows:Au):List RowA:=if n=0 then rows else rows++[.grow n sz]
theorem Owns.len1 {Rw rows:List RowA} {o ho:Own} {sz n m:Nat} (h:Owns Rw rows [(sz,n,o)] ho) (e:n=m):Owns Rw rows [(sz,m,o)] ho:=e▸h
section
variable {P:Program} {w0:World} {st:St} {M:Mem} {w:World}
theorem RelSt.adoptRow (h:RelSt w0 M st w) {w':World} (hb:Below w.heap.size w w') {g cap k sz:Nat} {cs:Array Value} {ty:TypeId} (hg:w.heap.size≤g) (hcs:w'.heap[g]? = some (.cells cs ty (0,0))) (hm:cap≤maxLen) (hk:k≤cap) (hs:cs.size=cap*sz) :
  RelSt w0 (M.addRow g cap k sz (k*sz)) { st with rows:=st.rows++[.grow k sz] } w'∧Ext w0 M w (M.addRow g cap k sz (k*sz)) w':=by
 have ad:g<w'.heap.size:=(Array.getElem?_eq_some_iff.1 hcs).1
 have e:∀ b,b<w.heap.size→(M.addRow g cap k sz (k*sz)).top b=M.top b:=fun b hb=>by simp [Mem.addRow];omega
 have s:∀ x,x<w.heap.size→w'.heap[x]? = w.heap[x]? := hb.block
 have z:KeepsObj w w':=fun x o n _=>(s x (Array.getElem?_eq_some_iff.1 n).1).trans n
 have a:∀ i,i<M.NR→(M.addRow g cap k sz (k*sz)).fr i=M.fr i∧(M.addRow g cap k sz (k*sz)).blk i=M.blk i∧(M.addRow g cap k sz (k*sz)).cap i=M.cap i∧(M.addRow g cap k sz (k*sz)).rsz i=M.rsz i:=by
  intro i p
  have:¬ i=M.NR:=by omega
  simp [Mem.addRow,this]
 have D:Ext w0 M w (M.addRow g cap k sz (k*sz)) w' :=
  ⟨Nat.le_refl _,fun _ _=>rfl,Nat.le_succ _,fun i p=>by obtain ⟨a1,a2,a3,a4⟩:=a i p;exact ⟨by omega,fun _=>⟨a2,a3,a4⟩⟩,fun x aa v p C=>by
   have d:=World.block_lt_of_cell? w _ C
   refine ⟨?_,p.imp id fun q=>by rw [e x d];exact q⟩
   unfold World.cell? at C ⊢
   simp only [s x d] at C ⊢
   exact C,hb.size,Nat.le_refl _,fun _ _=>rfl,fun _ n u=>absurd u (Nat.not_lt.2 n),fun x o n u _=>z x o n u,fun b q1 q=>⟨s b q1,⟨q.1,fun i p=>by
    by_cases c:i=M.NR
    ·subst c;simp only [Mem.addRow,if_true];omega
    ·have r:i<M.NR:=by simp only [Mem.addRow] at p;omega
     rw [(a i r).2.1];exact q.2.1 i r,q.2.2⟩,e b q1⟩⟩
 have E:∀ l,l<M.N→M.bx l≠g:=fun l G=>by have:=h.box_lt G;omega
 refine ⟨⟨h.below.trans (hb.mono h.base_le),h.N,by simp [Mem.addRow,h.NR],fun b U=>?_,h.inj,fun l c G=>?_,fun id y hid=>?_,fun i j p Y f=>?_,h.loop.mono D rfl z⟩,D⟩
 ·have:=hb.size
  have:(M.addRow g cap k sz (k*sz)).top b=M.top b:=by simp [Mem.addRow];omega
  rw [this]
  exact h.top b (by omega)
 ·obtain ⟨a1,a2,c',F,a3,a4,a5,a6⟩:=h.box l c G
  have d:=(Array.getElem?_eq_some_iff.1 a3).1
  exact ⟨a1,by rw [show (M.addRow g cap k sz (k*sz)).bx l=M.bx l from rfl,e _ d];exact a2,c',F,by rw [show (M.addRow g cap k sz (k*sz)).bx l=M.bx l from rfl,s _ d];exact a3,a4,a5,fun i n u=>(a6 i n u).mono D⟩
 ·by_cases e1:id=M.NR
  ·subst e1
   simp only [h.NR,List.getElem?_concat_length,Option.some.injEq] at hid
   subst hid
   have q:(M.addRow g cap k sz (k*sz)).fr M.NR=k∧(M.addRow g cap k sz (k*sz)).blk M.NR=g∧(M.addRow g cap k sz (k*sz)).cap M.NR=cap∧(M.addRow g cap k sz (k*sz)).rsz M.NR=sz∧(M.addRow g cap k sz (k*sz)).top g=k*sz:=by simp [Mem.addRow]
   obtain ⟨q1,q2,q3,O,K⟩:=q
   simp only [RowOk,q1,q2,q3,O,K]
   have ab:=h.base_le
   exact ⟨trivial,trivial,by omega,trivial,E,hm,hk,cs,ty,hcs,hs⟩
  ·have m:id<M.NR:=by
    have:id<(st.rows++[RowA.grow k sz]).length:=(Aj.1 hid).1
    have H:=h.NR
    simp at this
    omega
   rw [List.getElem?_append_left (by rw [←h.NR];exact m)] at hid
   have hk:=h.row id y hid
   obtain ⟨V,Z,J,Q⟩:=a id m
   exact hk.keep D V Q Z J (e _ hk.lt) hk.ne (s _ hk.lt)
 ·have H:(M.addRow g cap k sz (k*sz)).NR=M.NR+1:=rfl
  rw [H] at p Y
  have t:(M.addRow g cap k sz (k*sz)).blk M.NR=g:=by simp [Mem.addRow]
  by_cases e1:i=M.NR
  ·by_cases e2:j=M.NR
   ·omega
   ·subst e1
    rw [t,(a j (by omega)).2.1] at f
    have:=h.row_lt (i:=j) (by omega)
    omega
  ·by_cases e2:j=M.NR
   ·subst e2
    rw [t,(a i (by omega)).2.1] at f
    have:=h.row_lt (i:=i) (by omega)
    omega
   ·rw [(a i (by omega)).2.1,(a j (by omega)).2.1] at f
    exact h.rowinj i j (by omega) (by omega) f
theorem own_row {w':World} {e:TypeId} {sz:Nat} {v':Value} {n:Nat} {us:Nat→Value} {xs:List AV} (hst:RelSt w0 M st w) (hb:Below w.heap.size w w') (ho:w'.ownsRow w.heap.size e sz v' n (flat us n)) (hn:xs.length=n) (h0:n≠0)
  (hus:∀ i,i<n→(us i).cells.size=sz) (hR:∀ i (hi:i<xs.length),R w0 M w (us i) xs[i]):∃ M',Ext w0 M w M' w'∧RelSt w0 M' { st with rows:=st.rows++[.grow n sz] } w'∧R w0 M' w' v' (.list xs (.row st.rows.length)):=by
 subst hn
 obtain ⟨l,f⟩:=ho
 rcases f with ⟨rfl,h0'⟩ | ⟨g,cap,cur,rfl,hg,hcur,hc1,hc2,hc3,hc4⟩
 ·exact absurd h0' h0
 ·obtain ⟨d,c⟩:=hst.adoptRow hb hg hcur hc2 hc1 hc3
  have b:=hst.NR
  refine ⟨_,c,d,.list sz us hc1 hc2 (fun i hi=>⟨hus i hi,fun j k=>?_⟩) (fun i hi=>(hR i hi).mono c) ⟨by simp [Mem.addRow,b],by simp [Mem.addRow,b],fun _=>by simp [Mem.addRow,b]⟩⟩
  have a:i*sz+j<xs.length*sz:=by
   have:(i+1)*sz≤xs.length*sz:=Nat.mul_le_mul_right _ hi
   rw [Nat.succ_mul] at this;omega
  refine ⟨.inr (by simp only [Mem.addRow,if_true,Nat.zero_add];exact a),?_⟩
  have h:=GF hus i hi j k
  rw [←h,←hc4,List.getElem?_take_of_lt a,Array.getElem?_toList]
  simp [World.cell?,hcur]
theorem VJ {ρ:Ren} (L:Go.Proofs.SlLaysE0.n41 P ρ) (i0:TypeInfo) (size:Nat) (hi:P.info? (ρ.t 23)=some i0) (hz1:i0.size=size) (z23:∀ w,(Go.sizeOf (ρ.t 23)).run P w = .ok size w) (a:Addr) (c:Nat) (w:World) :
  Calls P (ρ.f 41) #[.slice (some a) 0 c] w fun e w'=>∃ b,e = .returned (.slice (some b) 0 0)∧Below w.heap.size w w':=by
 have mixed:=L.mixed;have t4:=L.t4;have a4:=L.a4;have z4:=L.z4;have v4:=L.v4;have t22:=L.t22;have a22:=L.a22;have z22:=L.z22;have v22:=L.v22
 have q22:∀ (w:World) (a:Option Addr) (n c n' c':Nat),(binOp .eql (ρ.t 22) (.slice a n c) (.slice none n' c')).run P w = .ok (.bool a.isNone) w:=fun w a n c n' c'=>Lib.run_eql_slice_nil w _ _ a n c n' c' L.t22
 have u22:∀ w,Sem.run P (underlying (ρ.t 22)) w = .ok (TypeDesc.slice (ρ.t 23)) w:=run_underlying t22
 have hgo:∀ (w:World) (ty:TypeId) (ad:Addr),(Builtin.append_ #[ρ.t 22,ρ.t 22] ty #[.slice (some ad) 0 0,.slice (some a) 0 c]).run P w = .ok (.slice (some ad) 0 0) w:=fun w ty ad=>by
  simp [Builtin.append_,run_underlying t22,sizeOf,typeInfo,hi,hz1,storeCells,Builtin.lenOf,Builtin.firstCells,loadCells,loadCellsFrom]
 obtain ⟨_,_,FG⟩:=L.f41
 go_enter FG,Go.Proofs.SlBodyN.n41_ntmps ρ
 go_wp2_with (at_builtin;refine Lib.wpList_append_run _ rfl _ _ (ρ.t 22) (ρ.t 22) rfl _ _ rfl rfl _ _ (hgo _ _ _) ?_)
 go_wp2
 go_ret
 exact ⟨_,rfl,(Below.refl _ w).alloc (Nat.le_refl _) _⟩
theorem M8 {ρ:Ren} (L:Go.Proofs.SlLaysE0.n41 P ρ) (hen:IZ P (ρ.f 41)) (size bytes:Nat) (hinf:ZaM P (ρ.t 23) size bytes=true) (hsz:0<size) (z23:∀ w,(Go.sizeOf (ρ.t 23)).run P w = .ok size w) {xs:List AV} {o:Own}
  (hx:∀ y∈xs,y.cells.length=size∧AA y=true) (hbig:xs.length*bytes≤140737488355328) :
  ACalls P w0 (ρ.f 41) [.list xs o] st fun r s=>r = .list xs (Jm xs.length st.rows)∧s={ st with rows:=ME xs.length size st.rows }:=by
 obtain ⟨i0,z,m,Y,G,O,U⟩:=Wa hinf
 refine ⟨hen,fun M w H x n=>?_⟩
 obtain ⟨v,rfl⟩:∃ v,H = #[v]:=by
  have:=n.1
  simp only [List.length_cons,List.length_nil] at this
  exact Array.size_eq_one_iff.1 this
 have hv:R w0 M w v (.list xs o):=n.2 0 (by simp) (by simp)
 have l:∀ (a:Addr) (c:Nat),xs=[]→Calls P (ρ.f 41) #[.slice (some a) 0 c] w fun en D=>∃ v M' r st',en = .returned v∧(r = .list xs (Jm xs.length st.rows)∧st'={ st with rows:=ME xs.length size st.rows })∧Ext w0 M w M' D∧RelSt w0 M' st' D∧R w0 M' D v r:=fun a c hxs=>by
  subst hxs
  refine (VJ L i0 size m G z23 a c w).mono ?_
  rintro en D ⟨b,rfl,d⟩
  obtain ⟨r1,r2⟩:=x.later d w.heap.size 0 (Nat.le_refl _) (.inr rfl)
  exact ⟨_,_,_,st,rfl,⟨rfl,rfl⟩,r2,r1,.emp (fun id=>by simp [Jm])⟩
 cases hv with
 | nil ho =>
  refine (Go.Proofs.AnyE.slices_Clone_nil L 0 0 w).mono ?_
  rintro en D ⟨rfl,rfl⟩
  exact ⟨_,M,_,st,rfl,⟨rfl,rfl⟩,.refl _ _ _,x,.nil (fun id=>by simp [Jm])⟩
 | @emp ad _ ho=>exact l ad 0 rfl
 | @list b off cap _ _ sz us hc hm hcell hu ho =>
  by_cases h0:xs=[]
  ·have:=l ⟨b,off,none⟩ cap h0
   rw [h0]
   rw [h0] at this
   exact this
  have p:xs.length≠0:=fun q=>h0 (List.length_eq_zero_iff.1 q)
  have h:∀ i,i<xs.length→(us i).cells.size=size:=fun i m=>by
   rw [((hu i m).cells).1];exact (hx _ (List.getElem_mem _)).1
  have g:∀ i,i<xs.length→∀ j,j<size→w.cell? ⟨b,off+i*size+j,none⟩=(us i).cells[j]? := fun i m j Q=>by
   have e:sz=size:=((hcell i m).1).symm.trans (h i m)
   subst e
   exact ((hcell i m).2 j Q).2
  refine (Go.Proofs.AnyE.slices_Clone L i0 z size bytes m Y G O U hsz z23 b off xs.length cap (flat us xs.length) w (AK h) (Nat.le_trans hc hm) hbig (fun j u Q=>?_) (fun u N=>?_)).mono ?_
  ·have:=EO h hsz g j u Q
   rwa [Dx] at this
  ·obtain ⟨i,K,Z⟩:=List.mem_flatMap.1 N
   have C:i<xs.length:=by simpa using K
   obtain ⟨k,hk,rfl⟩:=List.mem_iff_getElem.1 Z
   have E:=(hu i C).cells
   have F:k<(us i).cells.size:=by simpa using hk
   have:=E.2 k F (by rw [←E.1];exact F)
   rw [Array.getElem_toList]
   refine this.oneCell ((hu i C).cellsOne (fun vs V=>?_) _ (List.getElem_mem _))
   have:=(hx _ (List.getElem_mem C)).2
   rw [V] at this;cases this
  ·rintro en D ⟨v',rfl,J,_,d⟩
   obtain ⟨M',x1,x2,x3⟩:=own_row x d J rfl p h hu
   refine ⟨v',M',_,_,rfl,⟨rfl,rfl⟩,x1,?_,?_⟩
   ·rw [ME,Ai p];exact x2
   ·rw [Jm,Ai p];exact x3
end
end Go.Ev
namespace Go.Proofs.YtcdnijfbfdnjlaaGreatDoor
open Go Go.RowKit Go.Ev
def Iq:Go.Shelf.Ren:=⟨fun | 41=>88 | n=>n,fun | 22=>32 | 23=>3 | 4=>4 | n=>n,fun | n=>n⟩
theorem Md:Go.Proofs.SlLaysE0.n41 Tryz.prog Iq:={
 mixed:=by kernel_rfl
 f41:=⟨Tryz.f88.name,by decide,Tryz.func88.trans (congrArg some (by kernel_rfl))⟩
 t4:=Tryz.underlying4
 a4:=Tryz.isAgg4
 z4:=Tryz.sizeOf4
 v4:=Tryz.zeroValue4
 t22:=Tryz.underlying32
 a22:=Tryz.isAgg32
 z22:=Tryz.sizeOf32
 v22:=Tryz.zeroValue32 }
theorem Nh (w0:World) (B:Aq) (Rw:Au) (L:Av) (l:List Int) (h:l.length*8≤140737488355328) :
  ACalls Tryz.prog w0 88 [.list (l.map BG) .none] ⟨B,Rw,L⟩ fun r s=>r = .list (l.map BG) (Jm l.length Rw)∧s=⟨B,ME l.length 1 Rw,L⟩:=by
 have:=M8 (P:=Tryz.prog) (w0:=w0) (st:=⟨B,Rw,L⟩) (o := .none) (xs:=l.map BG) (ρ:=Iq) Md (A2 Tryz.func88 rfl (by decide)) 1 8 (by kernel_rfl) (by decide) Tryz.sizeOf3 (by simp +decide only [go_sem]) (by rw [List.length_map];exact h)
 rw [List.length_map] at this
 exact this
def Hu:Go.Shelf.Ren:=⟨fun | 41=>92 | n=>n,fun | 22=>46 | 23=>49 | 4=>4 | n=>n,fun | n=>n⟩
theorem Kp:Go.Proofs.SlLaysE0.n41 Tryz.prog Hu:={
 mixed:=by kernel_rfl
 f41:=⟨Tryz.f92.name,by decide,Tryz.func92.trans (congrArg some (by kernel_rfl))⟩
 t4:=Tryz.underlying4
 a4:=Tryz.isAgg4
 z4:=Tryz.sizeOf4
 v4:=Tryz.zeroValue4
 t22:=Tryz.underlying46
 a22:=Tryz.isAgg46
 z22:=Tryz.sizeOf46
 v22:=Tryz.zeroValue46 }
theorem Lq (w0:World) (B:Aq) (Rw:Au) (L:Av) (l:List Vl) (h:l.length*88≤140737488355328) :
  ACalls Tryz.prog w0 92 [.list (l.map C4) .none] ⟨B,Rw,L⟩ fun r s=>r = .list (l.map C4) (Jm l.length Rw)∧s=⟨B,ME l.length 6 Rw,L⟩:=by
 have:=M8 (P:=Tryz.prog) (w0:=w0) (st:=⟨B,Rw,L⟩) (o := .none) (xs:=l.map C4) (ρ:=Hu) Kp (A2 Tryz.func92 rfl (by decide)) 6 88 (by kernel_rfl) (by decide) Tryz.sizeOf49 (by simp +decide only [go_sem]) (by rw [List.length_map];exact h)
 rw [List.length_map] at this
 exact this
def GQ:Go.Shelf.Ren:=⟨fun | 41=>349 | n=>n,fun | 22=>22 | 23=>9 | 4=>4 | n=>n,fun | n=>n⟩
theorem Jr:Go.Proofs.SlLaysE0.n41 Tryz.prog GQ:={
 mixed:=by kernel_rfl
 f41:=⟨Tryz.f349.name,by decide,Tryz.func349.trans (congrArg some (by kernel_rfl))⟩
 t4:=Tryz.underlying4
 a4:=Tryz.isAgg4
 z4:=Tryz.sizeOf4
 v4:=Tryz.zeroValue4
 t22:=Tryz.underlying22
 a22:=Tryz.isAgg22
 z22:=Tryz.sizeOf22
 v22:=Tryz.zeroValue22 }
theorem Kt (w0:World) (B:Aq) (Rw:Au) (L:Av) (l:List ByteArray) (h:l.length*16≤140737488355328) :
  ACalls Tryz.prog w0 349 [.list (l.map IL) .none] ⟨B,Rw,L⟩ fun r s=>r = .list (l.map IL) (Jm l.length Rw)∧s=⟨B,ME l.length 1 Rw,L⟩:=by
 have:=M8 (P:=Tryz.prog) (w0:=w0) (st:=⟨B,Rw,L⟩) (o := .none) (xs:=l.map IL) (ρ:=GQ) Jr (A2 Tryz.func349 rfl (by decide)) 1 16 (by kernel_rfl) (by decide) Tryz.sizeOf9 (by simp +decide only [go_sem]) (by rw [List.length_map];exact h)
 rw [List.length_map] at this
 exact this
end Go.Proofs.YtcdnijfbfdnjlaaGreatDoor
namespace Go.Ev
open Go Go.RowKit Go.Shelf Go.Sort Go.Proofs
theorem Wx {α β:Type} {f:α→List β} {sz:Nat}:∀ {xs:List α},(∀ x∈xs,(f x).length=sz)→(xs.flatMap f).length=xs.length*sz
 | [],_=>by simp
 | x::xs,h=>by
  rw [List.flatMap_cons,List.length_append,h x (List.mem_cons_self ..),Wx (fun y a=>h y (List.mem_cons_of_mem _ a)),List.length_cons,Nat.succ_mul,Nat.add_comm]
abbrev cbL:List UInt8→List UInt8→Int:=Lib.compareBytes
theorem WV:∀ a,cbL a a=0
 | []=>rfl
 | x::a=>by simp only [cbL,Lib.compareBytes,UInt8.lt_irrefl,if_false];exact WV a
structure VOne (Rw rows:Au) (sz:Nat) (xs:List AV) (x:AV):Prop where
 pre:Rw <+: rows
 calm:∀ r∈rows.drop Rw.length,∀ y∈r.cells,∀ a b c,Under a b c y
 at_:(xs=[]∧x = .list [] .seed)∨∃ id ver,x = .vec id ver 0 xs.length∧0<xs.length∧Rw.length≤id∧rows[id]? = some (.vec ver sz (xs.flatMap AV.cells))
theorem VOne.none (Rw:Au) (sz:Nat):VOne Rw Rw sz [] (.list [] .seed):=⟨List.prefix_refl _,by simp,.inl ⟨rfl,rfl⟩⟩
theorem VOne.of_eq {Rw rows:List RowA} {sz:Nat} {xs ys:List AV} {x:AV} (h:VOne Rw rows sz xs x) (he:xs=ys):VOne Rw rows sz ys x:=he▸h
theorem VOne.len {Rw rows:List RowA} {sz:Nat} {xs:List AV} {x:AV} (h:VOne Rw rows sz xs x):Rw.length≤rows.length:=h.pre.length_le
theorem VOne.under {Rw rows:List RowA} {sz:Nat} {xs:List AV} {x:AV} (h:VOne Rw rows sz xs x) (nb nl:Nat):Under nb rows.length nl x:=by
 rcases h.at_ with ⟨_,rfl⟩ | ⟨id,ver,rfl,_,_,h3⟩
 ·exact .list (by simp) trivial
 ·exact .vec (Aj.1 h3).1
theorem VOne.cell {Rw rows:List RowA} {sz:Nat} {xs:List AV} {x:AV} (h:VOne Rw rows sz xs x):x.cells=[x]∧AA x=true∧x.pubCell.pubCell=x.pubCell:=by
 rcases h.at_ with ⟨_,rfl⟩ | ⟨id,ver,rfl,_,_,h3⟩<;>exact ⟨rfl,rfl,rfl⟩
theorem VOne.append {P:Program} {t el:TypeId} {sz by8:Nat} {ag:Bool} {Rw rows:List RowA} {xs:List AV} {x y:AV} (h:VOne Rw rows sz xs x) (he:FN P t=some (el,sz,ag,by8)) (hz:(AU P el).isSome=true) (hs:0<sz)
  (hb:(xs.length+1)*by8≤140737488355328) (hb2:xs.length+1≤4611686018427387904) (hy:y.cells.length=sz∧AA y=true) (hp:y.pub=y) (hu:∀ c∈y.cells,∀ a b d,Under a b d c) (hxs:∀ z∈xs,z.cells.length=sz) :
  ∃ x' rows',VOne Rw rows' sz (xs++[y]) x'∧∀ (B:Aq) (L:Av) (o2:Own),evAppend P ⟨B,rows,L⟩ t x (.list [y] o2)=(True,x',⟨B,rows',L⟩):=by
 have i:=h.len
 have g:appendOb P el sz by8 xs.length [y]=True:=by
  simp only [appendOb,hs,hz,List.length_singleton,hb,hb2,true_and,List.mem_singleton,forall_eq,hy,and_self]
 rcases h.at_ with ⟨rfl,rfl⟩ | ⟨id,ver,rfl,h1,h2,h3⟩
 ·refine ⟨.vec rows.length 0 0 1,rows++[.vec 0 sz y.cells],⟨h.pre.trans (List.prefix_append _ _),fun r hr z hz' a b c=>?_,.inr ⟨rows.length,0,rfl,by simp,i,by simp⟩⟩,fun B L o2=>?_⟩
  ·rw [List.drop_append_of_le_length i] at hr
   rcases List.mem_append.1 hr with hr | hr
   ·exact h.calm r hr z hz' a b c
   ·simp only [List.mem_singleton] at hr;subst hr;exact hu z hz' a b c
  ·simp only [evAppend,he,AG,Bl,List.length_singleton,List.length_nil,List.flatMap_cons,List.flatMap_nil,List.append_nil,hp]
   rw [show appendOb P el sz by8 0 [y]=True from g]
   simp
 ·have f:=(Aj.1 h3).1
  have e:(xs.flatMap AV.cells).length=xs.length*sz:=Wx hxs
  refine ⟨.vec id (ver+1) 0 (xs.length+1),rows.set id (.vec (ver+1) sz (xs.flatMap AV.cells++y.cells)),⟨Si h.pre h2 _,fun r hr z hz' a b c=>?_,.inr ⟨id,ver+1,by rw [List.length_append];rfl,by simp,h2,by simp [f,List.flatMap_append]⟩⟩,fun B L o2=>?_⟩
  ·rw [List.drop_set,Aa] at hr
   rcases List.mem_or_eq_of_mem_set hr with hr | rfl
   ·exact h.calm r hr z hz' a b c
   ·rcases List.mem_append.1 hz' with q | q
    ·exact h.calm (.vec ver sz (xs.flatMap AV.cells)) (by
      rw [List.mem_iff_getElem?]
      exact ⟨id-Rw.length,by rw [List.getElem?_drop,Nat.add_sub_cancel' h2];exact h3⟩) z q a b c
    ·exact hu z q a b c
  ·simp only [evAppend,he,AG,Bl,List.length_singleton,List.flatMap_cons,List.flatMap_nil,List.append_nil,hp,B6,h3,if_true]
   rw [g]
   simp only [e,true_and,Nat.le_refl,and_self,Prod.mk.injEq,true_and,List.take_of_length_le (Nat.le_of_eq e)]
end Go.Ev
namespace Go.Proofs.YtcdnijfbfdnjlaaGreatDoor
open Go Go.RowKit Go.Ev Go.Shelf Go.Sort Go.Lib
def J4:String:=(Rows.sagaChecksRow.laid.map (·.1)).getD 2 default
abbrev Pow10 (w:World):Prop:=Lib.TabIs Tryz.prog w J4 .u64 Lib.pow10Tab
theorem Pow10.below {w0 w:World} (h:Pow10 w0) (hb:Below w0.heap.size w0 w):Pow10 w:=by
 unfold Pow10 Lib.TabIs World.var? at *
 cases hg:Tryz.prog.globalNamed J4 with
 | none=>rw [hg] at h;cases h
 | some g =>
  rw [hg] at h
  simp only [Ae] at h ⊢
  cases hx:w0.heap[g]? with
  | none=>rw [hx] at h;cases h
  | some o =>
   rw [hb.block g (Array.getElem?_eq_some_iff.1 hx).1]
   exact h
theorem Oj (u:Nat):Lib.nDigits u≤u / 10+1:=by
 induction u using Nat.strongRecOn with
 | _ u ih =>
  by_cases h:u<10
  ·rw [Lib.nDigits_small h];omega
  ·rw [Lib.nDigits_big h]
   have:=ih (u / 10) (by omega)
   omega
theorem Xw (n:Int) (h : -9223372036854775808≤n∧n≤9223372036854775807):(Lib.itoa n).length≤maxLen:=by
 unfold Lib.itoa maxLen
 split
 ·rw [List.length_cons,Lib.decDigits_length];have:=Oj n.natAbs;omega
 ·rw [Lib.decDigits_length];have:=Oj n.toNat;omega
theorem ZaD (w0:World) (B:Aq) (Rw:Au) (L:Av) (hP:Pow10 w0) (n:Int) (hn : -9223372036854775808≤n∧n≤9223372036854775807) :
  ACalls Tryz.prog w0 86 [Ak n] ⟨B,Rw,L⟩ fun v s'=>v = .val (.string ⟨(Lib.itoa n).toArray⟩)∧s'=⟨B,Rw,L⟩ :=
 ES (A2 Tryz.func86 rfl (by decide)) (by
  show decide ((Lib.itoa n).toArray.size≤maxLen)=true
  rw [List.size_toArray]
  exact Ag (Xw n hn)) fun M w b f a=>by
  have:=Ic (us:=[.int .i64 n]) a
  subst this
  refine (Any.strconv_Itoa Tryz.laysM171 n hn.1 hn.2 w (hP.below f)).mono ?_
  rintro e g ⟨rfl,k,c,rfl⟩
  refine ⟨rfl,rfl,rfl,rfl,by simp [grow],fun i d=>?_⟩
  show (grow (w.drewN k) c).heap[i]? = w.heap[i]?
  rw [heap_grow_old (w.drewN k) c d]
  rfl
end Go.Proofs.YtcdnijfbfdnjlaaGreatDoor
namespace Go.Proofs.YtcdnijfbfdnjlaaGreatDoor
open Go Go.RowKit Go.Ev
theorem tgh {α β:Type} {a:α} {b:β} (h:Tg (a,b)):Tg a:=trivial
theorem tgt {α β:Type} {a:α} {b:β} (h:Tg (a,b)):Tg b:=trivial
theorem bI2 {α β:Type} {o:Option α} {x:α} {f:α→Option β} {r:β} {p:Prop} (hx:o=some x) (k:f x=some r→p):o.bind f=some r→p:=fun h=>by
 rw [hx] at h
 exact k h
theorem bI {α β:Type} {o:Option α} {f:α→Option β} {r:β} {p:Prop} (k:∀ y,o=some y→f y=some r→p):o.bind f=some r→p:=fun h=>by
 obtain ⟨y,a,b⟩:=bind_some h
 exact k y a b
theorem gI {β:Type} {c:Prop} [Decidable c] {x:Option β} {r:β} {p:Prop} (k:c→x=some r→p):(if c then x else none)=some r→p:=fun h=>by
 obtain ⟨a,b⟩:=An h
 exact k a b
theorem xI {α β:Type} {l:List α} {i:Int} {F:α→Option β} {r:β} {A p:Prop} (a:A) (k:∀ x,0≤i→i<l.length→((∀ g:α→AV,(l.map g).getD i.toNat .junk=g x)∧(∀ (g:α→AV) (j:Nat),i=(j:Int)→(l.map g).getD j .junk=g x)∧A)→F x=some r→p):(Gg l i).bind F=some r→p:=fun h=>by
 obtain ⟨x,d,h⟩:=bind_some h
 obtain ⟨a1,b,c⟩:=E8 d
 exact k x a1 b ⟨fun g=>E6 c,fun g j e=>by rw [show j=i.toNat by omega];exact E6 c,a⟩ h
section
variable {P:Program} {w0:World} {n:Nat} {M0:Mem} {W0:World} {ro:Option Nat} {e:Env} {st:St} {Q:AQ}
theorem cI {α β' β:Type} {ta:α} {tb:β'} {F:Prop} {b:Bool} {X Y r:β} (f:F) {c:Operand} {x y:Code} (ht:Tg ta→(b=true∧F)→X=r→C5 P w0 n M0 W0 ro x Q e st) (hf:Tg tb→(b=false∧F)→Y=r→C5 P w0 n M0 W0 ro y Q e st)
  (hc:argOk e true c) (hb:Ap e c = .val (.bool b)):(if b=true then X else Y)=r→Tg (ta,tb)→C5 P w0 n M0 W0 ro (.cond c x y) Q e st :=
 fun h _=>Gw h f (ht trivial) (hf trivial) hc (fun _=>hb)
theorem cT {c:Operand} {x y:Code} (c1:argOk e true c) (c2:Ap e c = .val (.bool true)) (c3:C5 P w0 n M0 W0 ro x Q e st):C5 P w0 n M0 W0 ro (.cond c x y) Q e st:=BJ true c1 c2 (fun _=>c3) (fun q=>Bool.noConfusion q)
theorem cF {c:Operand} {x y:Code} (c1:argOk e true c) (c2:Ap e c = .val (.bool false)) (c3:C5 P w0 n M0 W0 ro y Q e st):C5 P w0 n M0 W0 ro (.cond c x y) Q e st:=BJ false c1 c2 (fun q=>Bool.noConfusion q) (fun _=>c3)
theorem callG {f:FuncId} {c d:Bool} {cs args args':List AV} {k:AV→St→Prop} {v:AV}
  (hA:ACalls P w0 f args' st fun r s=>r=v∧s=st) (hE:(args++cs).map AV.pubA=args') (hk:k v st):HO P w0 c d (.clo f cs) args st k:=Ax v hA hE hk
theorem evI {c:Nat} {d:Bool} {all os:List Oper} {K:Env→St→Prop} (h:UQ P w0 n d all (Ks P w0 n d all K c) K os e st):Ks P w0 n d all K (c+1) os e st:=h
theorem ZjA {m:Nat} {L:List Nat} (t:Tg (m::L)) (hm:P.follows .mixedOrders=true) {id:Nat} {l:List Oper}
  (hev:Ks P w0 n true l (fun e1 s1=>Ks P w0 n false l (fun e2 s2=>Q .normal (Do L e2) s2) 9 (l.drop m) e1 s1) 9 (l.take m) e st) (hB:JH l m=true:=by kernel_rfl):C5 P w0 n M0 W0 ro (.region id l.toArray true) Q e st:=UK hm m 9 9 L hB hev
theorem te {B0 B bs X:List (List AV)} {Rw rows:List RowA} {L:List LoopA} {l:List (Nat × Nat × Ev.Own)} {c:Code} (hq:M0.N=B0.length∧M0.NR=Rw.length∧M0.NL=L.length∧Ev.Calm B0.length Rw.length L.length ⟨B,Rw,L⟩) (ho:Owns Rw rows l)
  (hB:B.length=B0.length) (hbs:(∀ x∈l,x.2.2.under rows.length)→∀ cs∈bs,∀ x∈cs,Under (B0.length+bs.length) rows.length L.length x)
  (he:(∀ x∈l,x.2.2.under rows.length)→GH (B0.length+bs.length) rows.length L.length e) (h:C5 P w0 n M0 W0 ro c Q e ⟨B++bs,rows,L⟩):C5 P w0 n M0 W0 ro c Q e ⟨B++(bs++X),rows,L⟩ :=
 D7 hq.1 hq.2.1 hq.2.2.1 hB hq.2.2.2 ho (hbs ho.unders) (he ho.unders) h
theorem fI {α β' β:Type} {ta:α} {tb:β'} {F:Prop} {b:Bool} {X Y r:β} {p:Prop} (f:F) (ht:Tg ta→(b=true∧F)→X=r→p) (hf:Tg tb→(b=false∧F)→Y=r→p):(if b=true then X else Y)=r→Tg (ta,tb)→p:=fun h _=>by
 cases b with
 | true=>exact ht trivial ⟨rfl,f⟩ h
 | false=>exact hf trivial ⟨rfl,f⟩ h
theorem ckA {a b c d:Prop} (cc:d) (co:c) (ce:a) (cs:b):a∧b∧c∧d:=⟨ce,cs,co,cc⟩
def preL:List (List AV)→List (List AV)→Prop
 | [],_=>True
 | _::_,[]=>False
 | b::bs,c::cs=>c=b∧preL bs cs
attribute [go_sem] preL.eq_1 preL.eq_2 preL.eq_3
theorem Xm:∀ {bs cs:List (List AV)},preL bs cs→cs=bs++cs.drop bs.length
 | [],_,_=>rfl
 | _::_,[],h=>h.elim
 | b::bs,c::cs,h=>by rw [h.1,List.length_cons,List.drop_succ_cons,List.cons_append,←Xm h.2]
theorem ckI {B bs cs:List (List AV)} {rows:List RowA} {L:List LoopA} (h:preL bs cs):(⟨B++cs,rows,L⟩:St)=⟨B++(bs++cs.drop bs.length),rows,L⟩:=by rw [←Xm h]
theorem ckB {B:List (List AV)} {rows:List RowA} {L:List LoopA}:(⟨B,rows,L⟩:St)=⟨B++([]++[]),rows,L⟩:=by simp
theorem Owns.n1 {Rw rows:List RowA} {sz n m:Nat} {o:Ev.Own} (h:Owns Rw rows [(sz,n,o)]) (e:n=m):Owns Rw rows [(sz,m,o)]:=e▸h
theorem Owns.n2 {Rw rows:List RowA} {sz n m sz' n' m':Nat} {o o':Ev.Own} (h:Owns Rw rows [(sz,n,o),(sz',n',o')]) (e:n=m) (e':n'=m'):Owns Rw rows [(sz,m,o),(sz',m',o')]:=e▸e'▸h
structure AE (P:Program) (t el:TypeId) (sz:Nat) (ag:Bool) (by8:Nat):Prop where
 he:FN P t=some (el,sz,ag,by8)
 hz:(AU P el).isSome=true
 hs:0<sz
theorem ae {P:Program} {t el:TypeId} {sz by8:Nat} {ag:Bool} {z:List AV} (he:FN P t=some (el,sz,ag,by8)) (hz:AU P el=some z) (hs:0<sz:=by decide):AE P t el sz ag by8:=⟨he,by rw [hz];rfl,hs⟩
theorem aI {P:Program} {t el:TypeId} {sz by8 n:Nat} {ag:Bool} {Rw rows:List RowA} {l:List (Nat × Nat × Ev.Own)} {o:Ev.Own} {β:Type} {x:Option β} {r:β} {A p:Prop} (a:AE P t el sz ag by8) (hO:Owns Rw rows ((sz,n,o)::l)) (f:A)
  (k:∀ o' rows',Owns Rw rows' ((sz,n+1,o')::l)→((n+1)*by8≤140737488355328∧n+1≤4611686018427387904) →
   ((∀ (xs:List AV) (y:AV) (B:Aq) (L:Av) (o2:Ev.Own),xs.length=n→(∀ z∈xs,z.cells.length=sz)→evAppend P ⟨B,rows,L⟩ t (.list xs o) (.list [y] o2)=((y.cells.length=sz∧AA y=true),.list (xs++[y.pub]) o',⟨B,rows',L⟩))∧A)→x=some r→p) :
  (if (n+1)*by8≤140737488355328∧n+1≤4611686018427387904 then x else none)=some r→p:=fun h=>by
 obtain ⟨c,h⟩:=An h
 obtain ⟨o',rows',b,q⟩:=hO.append (P:=P) a.he a.hz a.hs 1 c.1 c.2
 refine k o' rows' b c ⟨fun xs y B L o2 e d=>?_,f⟩ h
 have:=q xs [y] B L o2 e rfl d
 simpa only [List.mem_singleton,forall_eq,List.map_cons,List.map_nil] using this
theorem q1 {a:Prop} (x:a):a∧True:=⟨x,trivial⟩
theorem q2 {a b:Prop} (x:a) (y:b):a∧b∧True:=⟨x,y,trivial⟩
theorem q3 {a b c:Prop} (x:a) (y:b) (z:c):a∧b∧c∧True:=⟨x,y,z,trivial⟩
theorem skI {d:Bool} {fv:AV} {args:List AV} {k:AV→St→Prop} (h:k .junk st):HO P w0 false d fv args st k:=I4 h
theorem Zlu {B:List (List AV)} {l:Nat} {c:List AV} (h:B[l]? = some c):B[l]? = some c:=h
theorem Zfj {f:FuncId} {c d:Bool} {cs args args':List AV} {k:AV→St→Prop} {v:AV}
  (hA:ACalls P w0 f args' st fun r s=>r=v∧s=st) (hE:args++cs=args') (hk:k v st):HO P w0 c d (.clo f cs) args st k:=Zea v hA hE hk
end
theorem go {T F C1 C2 C3 C G H HC HK p:Prop} (tL:T) (h:H) (hs:F) (hN:C1) (hNR:C2) (hNL:C3) (hcalm:C) (hO:G) (hc:HC) (hk:HK) (k:T→H→F→C1→C2→C3→C→G→HC→HK→p:=by
    intro tL h hs hN hNR hNL hcalm hO hc hk
    try
      ((with_reducible apply te ⟨hN,hNR,hNL,hcalm⟩ hO)
       case' hB=>first | rfl | simp only [List.length_set]
       case' hbs=>(intro hU;(try simp only [List.mem_cons,List.not_mem_nil,or_false,forall_eq_or_imp,forall_eq] at hU);(first | simp +decide only [go_sem,Nat.reduceAdd,GH,hU] | simp +decide only [go_sem,Nat.reduceAdd,GH])<;>(try (repeat' apply Ad))<;>first | omega | assumption | exact hU.1 | exact hU.2 | exact hU.2.1 | exact hU.2.2)
       case' he=>(intro hU;(try simp only [List.mem_cons,List.not_mem_nil,or_false,forall_eq_or_imp,forall_eq] at hU);(first | simp +decide only [go_sem,Nat.reduceAdd,GH,hU] | simp +decide only [go_sem,Nat.reduceAdd,GH])<;>(try (repeat' apply Ad))<;>first | omega | assumption | exact hU.1 | exact hU.2 | exact hU.2.1 | exact hU.2.2))
    repeat' first
      | (revert h;(with_reducible refine xI hs ?_);intro x hxa hxb hs h)
      | (revert h;(with_reducible refine bI2 (by assumption) ?_);intro h)
      | (revert h;(with_reducible refine bI ?_);intro y hy h)
      | (revert h;(first | (with_reducible refine aI hc.1 hO hs ?_) | (with_reducible refine aI hc.2.1 hO hs ?_) | (with_reducible refine aI hc.2.2.1 hO hs ?_) | (with_reducible refine aI hc.2.2.2.1 hO hs ?_) | (with_reducible refine aI hc.2.2.2.2.1 hO hs ?_));intro o rows hO hg hs h)
      | (revert h;(first | (with_reducible refine aI hc.1 (hO.full _ 0) hs ?_) | (with_reducible refine aI hc.2.1 (hO.full _ 0) hs ?_) | (with_reducible refine aI hc.2.2.1 (hO.full _ 0) hs ?_) | (with_reducible refine aI hc.2.2.2.1 (hO.full _ 0) hs ?_) | (with_reducible refine aI hc.2.2.2.2.1 (hO.full _ 0) hs ?_));intro o rows hO hg hs h)
      | (revert h;(first | (with_reducible refine aI hc.1 (hO.swap (List.Perm.swap _ _ _)) hs ?_) | (with_reducible refine aI hc.2.1 (hO.swap (List.Perm.swap _ _ _)) hs ?_) | (with_reducible refine aI hc.2.2.1 (hO.swap (List.Perm.swap _ _ _)) hs ?_) | (with_reducible refine aI hc.2.2.2.1 (hO.swap (List.Perm.swap _ _ _)) hs ?_) | (with_reducible refine aI hc.2.2.2.2.1 (hO.swap (List.Perm.swap _ _ _)) hs ?_));intro o rows hO hg hs h)
      | (revert h;(first | (with_reducible refine aI hc.1 ((hO.full _ 0).swap (List.Perm.swap _ _ _)) hs ?_) | (with_reducible refine aI hc.2.1 ((hO.full _ 0).swap (List.Perm.swap _ _ _)) hs ?_) | (with_reducible refine aI hc.2.2.1 ((hO.full _ 0).swap (List.Perm.swap _ _ _)) hs ?_) | (with_reducible refine aI hc.2.2.2.1 ((hO.full _ 0).swap (List.Perm.swap _ _ _)) hs ?_) | (with_reducible refine aI hc.2.2.2.2.1 ((hO.full _ 0).swap (List.Perm.swap _ _ _)) hs ?_));intro o rows hO hg hs h)
      | (revert h;(with_reducible refine gI ?_);intro hg h)
      | (with_reducible apply Ad)
      | ((with_reducible refine hK _ _ ?_);clear hK)
      | (with_reducible refine hk.1 _ _ ?_)
      | (with_reducible refine hk.2.1 _ _ ?_)
      | (with_reducible refine hk.2.2.1 _ _ ?_)
      | (with_reducible exact hk.2.1 _ _ h)
      | (clear hK;(with_reducible refine hK _ _ ?_);clear hK)
      | (clear hK;clear hK;(with_reducible refine hK _ _ ?_);clear hK)
      | ((with_reducible refine evI ?_);simp +decide only [go_sem,Nat.reduceAdd,hs])
      | (with_reducible refine skI ?_)
      | ((with_reducible apply callG)
         case' hA=>first | apply hc.1 | apply hc.2.1 | apply hc.2.2.1 | apply hc.2.2.2.1 | apply hc.2.2.2.2.1 | apply hc.2.2.2.2.2.1 | apply hc.2.2.2.2.2.2.1 | apply hc.2.2.2.2.2.2.2.1
         case' hE=>rfl
         try (any_goals assumption))
      | ((with_reducible apply callG)
         case' hA=>first | apply hc.1 | apply hc.2.1 | apply hc.2.2.1 | apply hc.2.2.2.1 | apply hc.2.2.2.2.1 | apply hc.2.2.2.2.2.1 | apply hc.2.2.2.2.2.2.1 | apply hc.2.2.2.2.2.2.2.1
         any_goals (show _=some _;assumption)
         case' hE=>first | rfl | (simp +decide only [go_sem,Nat.reduceAdd,hs];done) | (simp +decide only [go_sem,Nat.reduceAdd,Vl.cs,Ty.cs,hs];done)
         try (any_goals assumption))
      | ((with_reducible apply Zfj)
         case' hA=>first | apply hc.1 | apply hc.2.1 | apply hc.2.2.1 | apply hc.2.2.2.1 | apply hc.2.2.2.2.1 | apply hc.2.2.2.2.2.1 | apply hc.2.2.2.2.2.2.1 | apply hc.2.2.2.2.2.2.2.1
         case' hE=>rfl
         try (any_goals first | assumption | exact List.prefix_append _ _ | exact List.prefix_refl _ | exact hO.pre))
      | ((with_reducible apply Zfj)
         case' hA=>first | apply hc.1 | apply hc.2.1 | apply hc.2.2.1 | apply hc.2.2.2.1 | apply hc.2.2.2.2.1 | apply hc.2.2.2.2.2.1 | apply hc.2.2.2.2.2.2.1 | apply hc.2.2.2.2.2.2.2.1
         any_goals (show _=some _;assumption)
         case' hE=>first | rfl | (simp +decide only [go_sem,Nat.reduceAdd,hs];done) | (simp +decide only [go_sem,Nat.reduceAdd,Vl.cs,Ty.cs,hs];done)
         try (any_goals first | assumption | exact List.prefix_append _ _ | exact List.prefix_refl _ | exact hO.pre))
      | ((with_reducible refine Zlu ?_);first | rfl | (simp +decide only [go_sem,Nat.reduceAdd,hs];done))
      | ((with_reducible apply Am);intro K hK)
      | ((with_reducible refine GA (c:=9) tg (tgh tL) ?_);replace tL:=tgt tL)
      | (with_reducible apply As)
      | (revert tL;revert h;(with_reducible apply cI hs)
         case' hc=>simp +decide only [go_sem,Nat.reduceAdd]
         case' hb=>first | (simp +decide only [go_sem,Nat.reduceAdd,hs];done) | (simp +decide only [go_sem,Nat.reduceAdd,hs];rfl)
         case' ht=>intro tL hs h
         case' hf=>intro tL hs h)
      | ((with_reducible refine Bz ?_)
         simp +decide only [go_sem,Nat.reduceAdd,hs]
         first | (have hgt:=Option.some.inj h;subst hgt) | subst h
         first | refine R7 hcalm rfl hO.pre ?_ ⟨?_,?_⟩ | refine TK hcalm rfl hO.pre ?_ ⟨?_,?_⟩ | refine R7 (D8 hcalm ?_) (List.length_set ..) hO.pre ?_ ⟨?_,?_⟩ | refine TK (D8 hcalm ?_) (List.length_set ..) hO.pre ?_ ⟨?_,?_⟩ | exact hk.1 _ _ rfl _
         all_goals first | rfl | (simp +decide only [go_sem,Nat.reduceAdd,hs];done) | (simp +decide only [go_sem,Nat.reduceAdd,Vl.cs,Ty.cs,hs];done) | (simp_all;done))
      | ((with_reducible refine Ov (tgh tL) ?_);replace tL:=tgt tL;first | (with_reducible refine CG ?_) | (with_reducible refine H8 ?_)
         simp +decide only [go_sem,Nat.reduceAdd])
      | ((with_reducible refine ZjA (tgh tL) NZ ?_);replace tL:=tgt tL)
      | ((with_reducible apply cT)
         case' c1=>simp +decide only [go_sem,Nat.reduceAdd]
         case' c2=>first | rfl | (simp +decide only [go_sem,Nat.reduceAdd,hs];done))
      | ((with_reducible apply cF)
         case' c1=>simp +decide only [go_sem,Nat.reduceAdd]
         case' c2=>first | rfl | (simp +decide only [go_sem,Nat.reduceAdd,hs];done))
      | (revert tL;revert h;(with_reducible refine fI hs ?_ ?_)<;>(intro tL hs h;(try have hs:=Ad (of_decide_eq_true hs.1) hs);(try have hs:=Ad (of_decide_eq_false hs.1) hs);try simp +decide only [go_sem,Nat.reduceAdd,hs]))
      | ((with_reducible apply Exists.intro)
         repeat (with_reducible apply Exists.intro)
         (with_reducible apply ckA)
         case' cc=>exact h
         case' co=>first | exact hO | (refine Owns.n1 hO ?_;first | rfl | simp only [List.length_append,List.length_cons,List.length_nil,List.length_map,Nat.zero_add,Nat.add_zero]) | (refine Owns.n2 (hO.swap (List.Perm.swap _ _ _)) ?_ ?_<;>(first | rfl | simp only [List.length_append,List.length_cons,List.length_nil,List.length_map,Nat.zero_add,Nat.add_zero])) | (refine Owns.n2 hO ?_ ?_<;>(first | rfl | simp only [List.length_append,List.length_cons,List.length_nil,List.length_map,Nat.zero_add,Nat.add_zero]))
         case' cs=>first | exact ckB | (refine ckI ?_;first | rfl | (simp +decide only [go_sem,Nat.reduceAdd,hs];done))
         case' ce=>first | rfl | (simp +decide only [go_sem,Nat.reduceAdd,hs];done))
      | exact cl):p:=k tL h hs hN hNR hNL hcalm hO hc hk
end Go.Proofs.YtcdnijfbfdnjlaaGreatDoor
namespace Go.Ev
open Go Go.RowKit
def Mem.start:Mem:=⟨0,0,fun _=>0,fun _=>0,fun _=>0,fun _=>0,fun _=>0,fun _=>0,0,fun _=>0⟩
theorem QT (W:World):RelSt W Mem.start ⟨[],[],[]⟩ W where
 below := .refl _ _
 N:=rfl
 NR:=rfl
 top:=fun _ _=>rfl
 inj:=fun _ _ h=>absurd h (Nat.not_lt_zero _)
 box:=fun _ _ h=>by simp at h
 row:=fun _ _ h=>by simp at h
 rowinj:=fun _ _ h=>absurd h (Nat.not_lt_zero _)
 loop:=⟨rfl,fun _ _ h=>absurd h (Nat.not_lt_zero _),fun _ _ h=>by simp at h⟩
theorem NJ {P:Program} {f:FuncId} {W:World} {vals:Array Value} {args:List AV} {r:Value} (h:ACalls P W f args ⟨[],[],[]⟩ fun v st=>v = .val r∧st=⟨[],[],[]⟩) (hr:RowR W Mem.start W vals args) :
  Calls P f vals W fun e w'=>e = .returned r∧Below W.heap.size W w' :=
 (h.2 Mem.start W vals (QT W) hr).mono fun en w' ⟨v,M',a,st,h1,⟨h2,_⟩,_,h4,h5⟩=>by
  subst h2
  have:=h5.val_inv.1
  subst this
  exact ⟨h1,h4.below⟩
theorem Zq {W:World} {v u:Value} {x y:AV} (h:R W Mem.start W v x) (k:R W Mem.start W u y):RowR W Mem.start W #[v,u] [x,y]:=⟨rfl,fun i b a=>by
 have:i=0∨i=1:=by simp at a;omega
 rcases this with rfl | rfl
 ·exact h
 ·exact k⟩
end Go.Ev
namespace Go.Proofs.YtcdnijfbfdnjlaaGreatDoor
open Go Go.Shelf Go.ChangeShapes Go.WideShapes Go.ChangeAt Go.RowKit Go.Lib Go.Ev
open Go.ChangeMaps (open_string shut_string)
set_option maxRecDepth 100000
theorem Zex:ownKnob Tryz.prog.godebug=none:=by kernel_rfl
def Ziw:DataW Unit→List Value
 | .lit (.int k z)=>[.int k z]
 | .agg l=>l.flatMap fun | .lit (.int k z)=>[.int k z] | _=>[]
 | _=>[]
def Zi0:DataW Unit→List Value
 | .agg l=>l.flatMap Ziw
 | _=>[]
theorem Py {W:World} (h:Lib.VarReads Tryz.prog W J4 Rows.laid_internal_strconv_uint64pow10):Pow10 W:=by
 obtain ⟨g,t,cs,a,p,d,f,c,b⟩:=h
 obtain rfl:=Option.some.inj ((show Tryz.prog.globalNamed J4=some 3 by kernel_rfl).symm.trans d)
 obtain rfl:=Option.some.inj ((show (Tryz.prog.globals[3]?).map (·.type)=some 306 by kernel_rfl).symm.trans f)
 have e:(Rows.laid_internal_strconv_uint64pow10:DataW Unit)=Lib.tabData .u64 Lib.pow10Tab:=by kernel_rfl
 rw [e] at b
 unfold Pow10 Lib.TabIs
 rw [c,←Lib.cells_of_tab (n:=20) (k := .u64) (zs:=Lib.pow10Tab) Tryz.underlying306 Tryz.underlying223 (by kernel_rfl) (by kernel_rfl) b]
set_option maxRecDepth 100000
mutual
def Vl.wf:Vl→Prop
 | .mk k i s t l f=>Bj k∧Bj i∧Bj s∧t.size≤maxLen∧l.length≤maxLen∧f.length≤maxLen∧ZbQ l∧ZaG f
def ZbQ:List Vl→Prop
 | []=>True
 | v::r=>v.wf∧ZbQ r
def ZaG:List (ByteArray × Vl)→Prop
 | []=>True
 | (n,v)::r=>n.size≤maxLen∧v.wf∧ZaG r
end
theorem TD:∀ l,ZbQ l↔∀ v∈l,v.wf
 | []=>by simp [ZbQ]
 | v::r=>by simp [ZbQ,TD r]
theorem SN:∀ l,ZaG l↔∀ p∈l,p.1.size≤maxLen∧p.2.wf
 | []=>by simp [ZaG]
 | (n,v)::r=>by simp [ZaG,SN r,and_assoc]
mutual
def Ty.wf:Ty→Prop
 | .mk k lo hi s w e f=>Bj k∧Bj lo∧Bj hi∧Bj s∧(∀ x∈w,x.size≤maxLen)∧w.length≤maxLen∧e.length≤maxLen∧f.length≤maxLen∧Z8 e∧TO f
def Z8:List Ty→Prop
 | []=>True
 | v::r=>v.wf∧Z8 r
def TO:List (Int × ByteArray × Int × Ty × List Vl)→Prop
 | []=>True
 | (n,s,d,t,l)::r=>(Bj n∧s.size≤maxLen∧Bj d∧t.wf∧l.length≤maxLen∧∀ v∈l,v.wf)∧TO r
end
theorem S3:∀ l,Z8 l↔∀ v∈l,v.wf
 | []=>by simp [Z8]
 | v::r=>by simp [Z8,S3 r]
theorem Qj:∀ l,TO l↔∀ p∈l,Bj p.1∧p.2.1.size≤maxLen∧Bj p.2.2.1∧p.2.2.2.1.wf∧p.2.2.2.2.length≤maxLen∧∀ v∈p.2.2.2.2,v.wf
 | []=>by simp [TO]
 | (n,s,d,t,l)::r=>by simp [TO,Qj r]
mutual
def Vl.bulk:Vl→Nat
 | .mk _ _ _ t l f=>1+t.size+KE l+Rn f
def KE:List Vl→Nat
 | []=>0
 | v::r=>v.bulk+KE r
def Rn:List (ByteArray × Vl)→Nat
 | []=>0
 | (n,v)::r=>n.size+v.bulk+Rn r
end
def RS:List ByteArray→Nat
 | []=>0
 | w::r=>w.size+1+RS r
mutual
def Ty.bulk:Ty→Nat
 | .mk _ _ _ _ w e f=>1+RS w+Rb e+NW f
def Rb:List Ty→Nat
 | []=>0
 | v::r=>v.bulk+Rb r
def NW:List (Int × ByteArray × Int × Ty × List Vl)→Nat
 | []=>0
 | (_,n,_,t,l)::r=>n.size+t.bulk+KE l+NW r
end
theorem Ll:∀ l,KE l=(l.map Vl.bulk).sum
 | []=>rfl
 | v::r=>by rw [KE,Ll r];rfl
theorem OI:∀ l,Rn l=(l.map fun p=>p.1.size+p.2.bulk).sum
 | []=>rfl
 | (n,v)::r=>by rw [Rn,OI r];rfl
theorem OO:∀ l,RS l=(l.map fun w=>w.size+1).sum
 | []=>rfl
 | v::r=>by rw [RS,OO r];rfl
theorem Ol:∀ l,Rb l=(l.map Ty.bulk).sum
 | []=>rfl
 | v::r=>by rw [Rb,Ol r];rfl
theorem Nz:∀ l,NW l=(l.map fun p=>p.2.1.size+p.2.2.2.1.bulk+KE p.2.2.2.2).sum
 | []=>rfl
 | (a,n,b,t,l)::r=>by rw [NW,Nz r];rfl
def Part.wf (p:Part):Prop:=Bj p.kind∧Bj p.index∧p.name.size≤maxLen
def Sch.wf (s:Sch):Prop:=s.name.size≤maxLen∧Bj s.version∧s.type.wf
section
variable {H:Type} {enc:TypeId × Value→H} {W:World}
def RC (W:World) (cs:List Value) (xs:List AV):Prop:=cs.length=xs.length∧∀ i (h1:i<cs.length) (h2:i<xs.length),R W Mem.start W cs[i] xs[i]
theorem RC.nil:RC W [] []:=⟨rfl,fun i a=>absurd a (by simp)⟩
theorem RC.cons {v:Value} {x:AV} {cs:List Value} {xs:List AV} (h:R W Mem.start W v x) (k:RC W cs xs):RC W (v::cs) (x::xs):=⟨by simp [k.1],fun i b a=>by
 cases i with
 | zero=>exact h
 | succ i=>simpa using k.2 i (by simpa using b) (by simpa using a)⟩
theorem RC.app {cs ds:List Value} {xs ys:List AV} (h:RC W cs xs) (k:RC W ds ys):RC W (cs++ds) (xs++ys):=by
 refine ⟨by simp [h.1,k.1],fun i b a=>?_⟩
 by_cases c:i<cs.length
 ·rw [List.getElem_append_left c,List.getElem_append_left (h.1▸c)];exact h.2 i c _
 ·rw [List.getElem_append_right (Nat.le_of_not_lt c),List.getElem_append_right (h.1▸Nat.le_of_not_lt c)]
  simp only [h.1]
  exact k.2 _ (by have:=h.1;rw [List.length_append] at b;omega) (by have:=h.1;rw [List.length_append] at a;omega)
theorem RC.agg {cs:List Value} {xs:List AV} (h:RC W cs xs) (h1:∀ x∈xs,x.one=true):R W Mem.start W (.agg cs.toArray) (.agg xs) := .agg (by simpa using h.1) h1 (fun i a b=>by simpa using h.2 i (by simpa using a) b)
noncomputable abbrev Td (enc:TypeId × Value→H) (W:World) (n:Nat) (t:TypeId) (cs:List Value):Option (DataW H × List MemPlace):=DataW.trod enc Tryz.prog W 0 (fun _=>true) true n t cs
theorem MI (d:DataW H):1≤Rows.uptoBulk d:=by
 cases d with
 | lit l=>cases l<;>simp [Rows.uptoBulk]
 | _=>simp [Rows.uptoBulk]
theorem QJ {α:Type} (m:α→Nat):∀ (l:List α) (es:List (DataW H × List MemPlace)),l.length=es.length→(∀ i (h1:i<l.length) (h2:i<es.length),m l[i]≤Rows.uptoBulk es[i].1)→(l.map m).sum≤Rows.uptoBulkAll (es.map (·.1))
 | [],_,_,_=>by simp
 | y::r,[],h,_=>by simp at h
 | y::r,e::es,h,k=>by
  have a:=k 0 (by simp) (by simp)
  have:=QJ m r es (by simpa using h) (fun i h1 h2=>by have:=k (i+1) (by simpa using h1) (by simpa using h2);simpa using this)
  simp only [List.map_cons,List.sum_cons,Rows.uptoBulkAll,List.getElem_cons_zero] at a ⊢
  omega
theorem CJ {n:Nat} {cs:List Value} {x:DataW H × List MemPlace} (h:Td enc W n 3 cs=some x):∃ z,Bj z∧cs=[.int .i64 z]:=by
 obtain ⟨z,rfl,_,a⟩:=DataW.trod_int Tryz.underlying3 h
 refine ⟨z,?_,rfl⟩
 simp [Lit.wf,IntKind.min,IntKind.max,IntKind.signed,IntKind.bits] at a
 unfold Bj
 omega
theorem Ja {n:Nat} {cs:List Value} {x:DataW H × List MemPlace} (h:Td enc W n 9 cs=some x):∃ s:ByteArray,s.size≤maxLen∧cs=[.string s]∧s.size+1≤Rows.uptoBulk x.1:=by
 obtain ⟨s,rfl,rfl,a⟩:=DataW.trod_string Tryz.underlying9 h
 exact ⟨s,a,rfl,by simp [Rows.uptoBulk]⟩
theorem EC {α:Type} (f:α→AV) (p:α→Prop) (m:α→Nat) {t e:TypeId} {sz:Nat} (ht:Tryz.prog.underlying t=some (.slice e)) (hc:Tryz.prog.cellsOf e=sz) (hsz:0<sz) {n:Nat}
  (H0:∀ cs x,Td enc W n e cs=some x→∃ y u,p y∧u.cells.toList=cs∧R W Mem.start W u (f y)∧m y≤Rows.uptoBulk x.1) {cs:List Value} {x:DataW H × List MemPlace} (h:Td enc W (n+1) t cs=some x) :
  ∃ (l:List α) (v:Value),(∀ y∈l,p y)∧l.length≤maxLen∧cs=[v]∧R W Mem.start W v (.list (l.map f) .none)∧(l.map m).sum+1≤Rows.uptoBulk x.1:=by
 rcases DataW.trod_slice ht h with ⟨rfl,_⟩ | ⟨a,len,cap,elems,rest,n',hn,rfl,rfl,hb,hl,hm,hlen,hel,hsp,_⟩
 ·exact ⟨[],_,by simp,by simp,rfl,.nil (fun id=>by simp),by simpa using MI x.1⟩
 ·cases hn
  by_cases hcap:cap=0
  ·subst hcap
   obtain rfl:len=0:=by omega
   exact ⟨[],_,by simp,by simp,rfl,.emp (fun id=>by simp),by simpa using MI _⟩
  have hspot:a.spot=none:=by
   have get:∀ (c:DataW H × List MemPlace) (r:List Value→Option (DataW H × List MemPlace)),(W.cells? 0 (a.add (0*Tryz.prog.cellsOf e)) (Tryz.prog.cellsOf e)).bind r=some c→a.spot=none:=fun c r hr=>by
    obtain ⟨cs',E,_⟩:=Option.bind_eq_some_iff.1 hr
    obtain ⟨_,D,F⟩:=World.cells?_some E
    have h4:=F 0 (by omega)
    rw [List.getElem?_eq_getElem (by omega)] at h4
    have Z:(a.add (0*Tryz.prog.cellsOf e)).add 0=a:=by simp [Addr.add]
    rw [Z] at h4
    unfold World.cell? at h4
    split at h4
    ·split at h4
     ·cases h4
     ·rename_i q;simpa using q
    ·cases h4
   by_cases h0:0<len
   ·have:=hel 0 h0
    rw [List.getElem?_eq_getElem (by omega)] at this
    exact get _ _ this
   ·obtain ⟨E,D⟩:=hsp rfl
    have:=D 0 (by omega)
    rw [List.getElem?_eq_getElem (by omega)] at this
    obtain rfl:len=0:=by omega
    exact get _ _ this
  obtain ⟨b,off,sp⟩:=a
  simp only at hspot
  subst hspot
  have C:∀ i,i<len→∃ y u,p y∧R W Mem.start W u (f y)∧(∀ h:i<elems.length,m y≤Rows.uptoBulk elems[i].1)∧u.cells.size=sz∧∀ j,j<sz→W.cell? ⟨b,off+i*sz+j,none⟩=u.cells[j]? := fun i k=>by
   have E:=hel i k
   rw [List.getElem?_eq_getElem (by omega)] at E
   obtain ⟨cs',D,F⟩:=Option.bind_eq_some_iff.1 E
   obtain ⟨y,u,h4,O,h6,N⟩:=H0 _ _ F
   obtain ⟨_,U,Q⟩:=World.cells?_some D
   rw [hc] at U Q
   refine ⟨y,u,h4,h6,fun _=>N,by rw [←U,←O,Array.length_toList],fun j G=>?_⟩
   have:=Q j G
   rw [←O,Array.getElem?_toList] at this
   rw [←this]
   congr 1
   have V:∀ (o m:Nat),(⟨b,o,none⟩:Addr).add m=⟨b,o+m,none⟩:=fun o m=>by unfold Addr.add;split<;>simp_all
   rw [V,V]
  classical
  let y:Nat→Option (α × Value):=fun i=>if k:i<len then some (Classical.choose (C i k),Classical.choose (Classical.choose_spec (C i k))) else none
  have K:len=0∨Nonempty (α × Value):=by
   by_cases h0:0<len
   ·obtain ⟨z,u,_⟩:=C 0 h0;exact .inr ⟨(z,u)⟩
   ·exact .inl (by omega)
  rcases K with h0 | ⟨⟨d⟩⟩
  ·subst h0
   exact ⟨[],_,by simp,by simp,rfl,.list (xs:=[]) 0 (fun _=>undef) (Nat.zero_le _) hm (fun i k=>absurd k (by simp)) (fun i k=>absurd k (by simp)) trivial,by simpa using MI _⟩
  ·let g:Nat→α × Value:=fun i=>if k:i<len then (Classical.choose (C i k),Classical.choose (Classical.choose_spec (C i k))) else d
   have J:∀ i,i<len→p (g i).1∧R W Mem.start W (g i).2 (f (g i).1)∧(∀ h:i<elems.length,m (g i).1≤Rows.uptoBulk elems[i].1)∧(g i).2.cells.size=sz∧∀ j,j<sz→W.cell? ⟨b,off+i*sz+j,none⟩=(g i).2.cells[j]? := fun i k=>by
    have:=Classical.choose_spec (Classical.choose_spec (C i k))
    simp only [g,dif_pos k]
    exact this
   have s:(((List.range len).map fun i=>(g i).1).map f).length=len:=by simp
   refine ⟨(List.range len).map fun i=>(g i).1,.slice (some ⟨b,off,none⟩) len cap,fun z Y=>?_,by simp;omega,rfl,?_,?_⟩
   ·obtain ⟨i,k,rfl⟩:=List.mem_map.1 Y
    exact (J i (by simpa using k)).1
   ·have:=Ev.R.list (w0:=W) (M:=Ev.Mem.start) (w:=W) (b:=b) (off:=off) (cap:=cap) (xs:=((List.range len).map fun i=>(g i).1).map f) (o := .none) sz (fun i=>(g i).2) (by rw [s];exact hl) hm
     (fun i k=>by
      rw [s] at k
      obtain ⟨_,_,_,F,h4⟩:=J i k
      refine ⟨F,fun j G=>⟨.inl ?_,h4 j G⟩⟩
      have:=h4 j G
      rw [Array.getElem?_eq_getElem (by rw [F];exact G)] at this
      exact World.block_lt_of_cell? W _ this) (fun i k=>by
      rw [s] at k
      simp only [List.getElem_map,List.getElem_range]
      exact (J i k).2.1) trivial
    rw [s] at this
    exact this
   ·have:=QJ m ((List.range len).map fun i=>(g i).1) elems (by simp;omega) (fun i E D=>by
     simp only [List.getElem_map,List.getElem_range]
     exact (J i (by omega)).2.2.1 D)
    simp only [Rows.uptoBulk]
    omega
theorem Vl.ones (v:Vl):∀ x∈v.cs,x.one=true:=by
 cases v;intro x hx
 simp only [Vl.cs,List.mem_cons,List.not_mem_nil,or_false] at hx
 rcases hx with rfl | rfl | rfl | rfl | rfl | rfl<;>rfl
theorem Ty.ones (v:Ty):∀ x∈v.cs,x.one=true:=by
 cases v;intro x hx
 simp only [Ty.cs,List.mem_cons,List.not_mem_nil,or_false] at hx
 rcases hx with rfl | rfl | rfl | rfl | rfl | rfl | rfl<;>rfl
theorem Ld:∀ (n:Nat) (cs:List Value) (x:DataW H × List MemPlace),Td enc W n 49 cs=some x→∃ v:Vl,v.wf∧RC W cs v.cs∧v.bulk≤Rows.uptoBulk x.1
 | 0,cs,x,h=>by simp [Td,DataW.trod] at h
 | n+1,cs,x,h=>by
  obtain ⟨xs,Q,hn,rfl,w,hx,a⟩:=DataW.trod_struct Tryz.underlying49 h
  cases hn
  have C:cs.length=6:=w.trans (by kernel_rfl)
  have f:xs.length=6:=hx
  match cs,C,xs,f,a with
  | [c0,c1,c2,c3,c4,c5],_,[y0,y1,y2,y3,y4,y5],_,a =>
  have Y:_=some y0:=a 0 _ rfl;have N:_=some y1:=a 1 _ rfl;have K:_=some y2:=a 2 _ rfl;have O:_=some y3:=a 3 _ rfl;have J:_=some y4:=a 4 _ rfl;have f5:_=some y5:=a 5 _ rfl
  obtain ⟨k,hk,ek⟩:=CJ Y
  obtain ⟨i,U,ei⟩:=CJ N
  obtain ⟨s,hs,es⟩:=CJ K
  obtain ⟨t,F,et,bt⟩:=Ja O
  cases n with
  | zero=>simp [DataW.trod] at J
  | succ n =>
  obtain ⟨l,vl,r,o,el,y,bl⟩:=EC C4 Vl.wf Vl.bulk Tryz.underlying46 (sz:=6) (by kernel_rfl) (by omega) (fun cs x h=>by
   obtain ⟨v,hv,b,E⟩:=Ld n cs x h
   exact ⟨v,.agg cs.toArray,hv,by simp [Value.cells],b.agg v.ones,E⟩) J
  obtain ⟨fl,vf,j,D,ef,m,bf⟩:=EC ID (fun p=>p.1.size≤maxLen∧p.2.wf) (fun p=>p.1.size+p.2.bulk) Tryz.underlying47 (sz:=7) (by kernel_rfl) (by omega) (fun cs x h=>by
   cases n with
   | zero=>simp [DataW.trod] at h
   | succ n =>
   obtain ⟨G,Q,hn,rfl,w,hx,a⟩:=DataW.trod_struct Tryz.underlying110 h
   cases hn
   have e:cs.length=7:=w.trans (by kernel_rfl)
   have d:G.length=2:=hx
   match G,d,a with
   | [w0,w1],_,a =>
   have Z:_=some w0:=a 0 _ rfl;have q1:_=some w1:=a 1 _ rfl
   obtain ⟨nm,c,en,bn⟩:=Ja Z
   obtain ⟨v,hv,b,E⟩:=Ld n _ _ q1
   have V:Tryz.prog.cellsOf 49=6:=by kernel_rfl
   have e3:Tryz.prog.cellsOf 9=1:=by kernel_rfl
   simp only [List.getElem_toArray,List.getElem_cons_zero,List.getElem_cons_succ,V,e3] at en b
   match cs,e with
   | [c0,c1,c2,c3,c4,c5,c6],_ =>
   simp only [List.drop_zero,List.take_succ_cons,List.take_zero,List.cons.injEq,and_true,List.drop_succ_cons] at en b
   subst en
   refine ⟨(nm,v),.agg #[.string nm,c1,c2,c3,c4,c5,c6],⟨c,hv⟩,rfl,?_,by simp only [List.map_cons,List.map_nil,Rows.uptoBulk,Rows.uptoBulkAll];omega⟩
   exact RC.agg (cs:=[.string nm,c1,c2,c3,c4,c5,c6]) (.cons (.flat (Ag c)) b) (fun x hx=>by
    rcases List.mem_cons.1 hx with rfl | hx
    ·rfl
    ·exact v.ones x hx)) f5
  have u:Tryz.prog.cellsOf 3=1:=by kernel_rfl
  have z:Tryz.prog.cellsOf 9=1:=by kernel_rfl
  have q:Tryz.prog.cellsOf 46=1:=by kernel_rfl
  have g:Tryz.prog.cellsOf 47=1:=by kernel_rfl
  simp only [List.getElem_toArray,List.getElem_cons_zero,List.getElem_cons_succ,u,z,q,g,List.drop_zero,List.take_succ_cons,List.take_zero,List.cons.injEq,and_true,List.drop_succ_cons] at ek ei es et el ef
  subst ek ei es et el ef
  refine ⟨.mk k i s t l fl,?_,?_,by simp only [List.map_cons,List.map_nil,Rows.uptoBulk,Rows.uptoBulkAll,Vl.bulk,Ll,OI];omega⟩
  ·unfold Vl.wf
   exact ⟨hk,U,hs,F,o,D,(TD l).2 r,(SN fl).2 j⟩
  ·rw [Vl.cs,Lt,UP]
   exact .cons (.flat rfl) (.cons (.flat rfl) (.cons (.flat rfl) (.cons (.flat (Ag F)) (.cons y (.cons m .nil)))))
theorem RU:∀ (n:Nat) (cs:List Value) (x:DataW H × List MemPlace),Td enc W n 26 cs=some x→∃ v:Ty,v.wf∧RC W cs v.cs∧v.bulk≤Rows.uptoBulk x.1
 | 0,cs,x,h=>by simp [Td,DataW.trod] at h
 | n+1,cs,x,h=>by
  obtain ⟨xs,n',hn,rfl,G,hx,a⟩:=DataW.trod_struct Tryz.underlying26 h
  cases hn
  have g:cs.length=7:=G.trans (by kernel_rfl)
  have U:xs.length=7:=hx
  match cs,g,xs,U,a with
  | [c0,c1,c2,c3,c4,c5,c6],_,[y0,y1,y2,y3,y4,y5,y6],_,a =>
  have f0:_=some y0:=a 0 _ rfl;have f1:_=some y1:=a 1 _ rfl;have f2:_=some y2:=a 2 _ rfl;have f3:_=some y3:=a 3 _ rfl;have f4:_=some y4:=a 4 _ rfl;have f5:_=some y5:=a 5 _ rfl;have f6:_=some y6:=a 6 _ rfl
  obtain ⟨k,hk,ek⟩:=CJ f0
  obtain ⟨lo,Y,elo⟩:=CJ f1
  obtain ⟨hi,D,ehi⟩:=CJ f2
  obtain ⟨s,hs,es⟩:=CJ f3
  cases n with
  | zero=>simp [DataW.trod] at f4
  | succ n =>
  obtain ⟨w,vw,f,O,ew,y,bw⟩:=EC IL (fun s=>s.size≤maxLen) (fun w=>w.size+1) Tryz.underlying22 (sz:=1) (by kernel_rfl) (by omega) (fun cs x h=>by
   obtain ⟨s,hs,rfl,d⟩:=Ja h
   exact ⟨s,.string s,hs,rfl,.flat (Ag hs),d⟩) f4
  obtain ⟨Z,ve,J,Q,ee,F,be⟩:=EC EV Ty.wf Ty.bulk Tryz.underlying23 (sz:=7) (by kernel_rfl) (by omega) (fun cs x h=>by
   obtain ⟨v,hv,b,d⟩:=RU n cs x h
   exact ⟨v,.agg cs.toArray,hv,by simp [Value.cells],b.agg v.ones,d⟩) f5
  obtain ⟨fl,vf,m,V,ef,o,bf⟩:=EC FM (fun p=>Bj p.1∧p.2.1.size≤maxLen∧Bj p.2.2.1∧p.2.2.2.1.wf∧p.2.2.2.2.length≤maxLen∧∀ v∈p.2.2.2.2,v.wf) (fun p=>p.2.1.size+p.2.2.2.1.bulk+KE p.2.2.2.2) Tryz.underlying24 (sz:=11) (by kernel_rfl) (by omega) (fun cs x h=>by
   cases n with
   | zero=>simp [DataW.trod] at h
   | succ n =>
   obtain ⟨ys,n',hn,rfl,G,hx,a⟩:=DataW.trod_struct Tryz.underlying118 h
   cases hn
   have c:cs.length=11:=G.trans (by kernel_rfl)
   have q:ys.length=5:=hx
   match ys,q,a with
   | [w0,w1,w2,w3,w4],_,a =>
   have q0:_=some w0:=a 0 _ rfl;have q1:_=some w1:=a 1 _ rfl;have q2:_=some w2:=a 2 _ rfl;have q3:_=some w3:=a 3 _ rfl;have q4:_=some w4:=a 4 _ rfl
   obtain ⟨r,t,enu⟩:=CJ q0
   obtain ⟨nm,e,en,bn⟩:=Ja q1
   obtain ⟨C,i,end'⟩:=CJ q2
   obtain ⟨v,hv,b,aa⟩:=RU n _ _ q3
   cases n with
   | zero=>simp [DataW.trod] at q4
   | succ n =>
   obtain ⟨dl,vd,j,N,ed,u,bd⟩:=EC C4 Vl.wf Vl.bulk Tryz.underlying46 (sz:=6) (by kernel_rfl) (by omega) (fun cs x h=>by
    obtain ⟨v,hv,b,d⟩:=Ld n cs x h
    exact ⟨v,.agg cs.toArray,hv,by simp [Value.cells],b.agg v.ones,d⟩) q4
   have e1:Tryz.prog.cellsOf 3=1:=by kernel_rfl
   have e2:Tryz.prog.cellsOf 26=7:=by kernel_rfl
   have e3:Tryz.prog.cellsOf 9=1:=by kernel_rfl
   have e4:Tryz.prog.cellsOf 46=1:=by kernel_rfl
   simp only [List.getElem_toArray,List.getElem_cons_zero,List.getElem_cons_succ,e1,e2,e3,e4] at enu en end' b ed
   match cs,c with
   | [c0,c1,c2,c3,c4,c5,c6,c7,c8,c9,c10],_ =>
   simp only [List.drop_zero,List.take_succ_cons,List.take_zero,List.cons.injEq,and_true,List.drop_succ_cons] at enu en end' b ed
   subst enu en end' ed
   refine ⟨(r,nm,C,v,dl),.agg #[.int .i64 r,.string nm,.int .i64 C,c3,c4,c5,c6,c7,c8,c9,c10],⟨t,e,i,hv,N,j⟩,rfl,?_,by simp only [List.map_cons,List.map_nil,Rows.uptoBulk,Rows.uptoBulkAll,Ll];omega⟩
   exact RC.agg (cs:=[.int .i64 r,.string nm,.int .i64 C]++([c3,c4,c5,c6,c7,c8,c9]++[c10])) (.cons (.flat rfl) (.cons (.flat (show E9 (.string nm)=true from Ag e)) (.cons (.flat rfl) (b.app (.cons u .nil))))) (fun x hx=>by
    simp only [List.mem_cons,List.mem_append,List.not_mem_nil,or_false] at hx
    rcases hx with rfl | rfl | rfl | hx | rfl
    ·rfl
    ·rfl
    ·rfl
    ·exact v.ones x hx
    ·rfl)) f6
  have E:Tryz.prog.cellsOf 3=1:=by kernel_rfl
  have K:Tryz.prog.cellsOf 22=1:=by kernel_rfl
  have z:Tryz.prog.cellsOf 23=1:=by kernel_rfl
  have l:Tryz.prog.cellsOf 24=1:=by kernel_rfl
  simp only [List.getElem_toArray,List.getElem_cons_zero,List.getElem_cons_succ,E,K,z,l,List.drop_zero,List.take_succ_cons,List.take_zero,List.cons.injEq,and_true,List.drop_succ_cons] at ek elo ehi es ew ee ef
  subst ek elo ehi es ew ee ef
  refine ⟨.mk k lo hi s w Z fl,?_,?_,by simp only [List.map_cons,List.map_nil,Rows.uptoBulk,Rows.uptoBulkAll,Ty.bulk,OO,Ol,Nz];omega⟩
  ·unfold Ty.wf
   exact ⟨hk,Y,D,hs,f,O,Q,V,(S3 Z).2 J,(Qj fl).2 m⟩
  ·rw [Ty.cs,Up,Qn,YR]
   exact .cons (.flat rfl) (.cons (.flat rfl) (.cons (.flat rfl) (.cons (.flat rfl) (.cons y (.cons F (.cons o .nil))))))
end
section
variable {H:Type} {enc:TypeId × Value→H} {W:World} {base:Nat} {v:Value} {d:DataW H} {p:List MemPlace}
theorem Zbl {t:TypeId} {fs:Array Field} (ht:Tryz.prog.underlying t=some (.struct fs)) (hv:Value.okWide Tryz.prog W .any base t v):∃ cs,v = .agg cs:=by
 unfold Value.okWide at hv
 rw [ht] at hv
 obtain ⟨cs,h,_⟩:=hv
 exact ⟨cs,h⟩
end
end Go.Proofs.YtcdnijfbfdnjlaaGreatDoor
namespace Go.Proofs.YtcdnijfbfdnjlaaGreatDoor
open Go Go.RowKit Go.Ev
theorem AO {α:Type} {l:List α} {k:Nat} (h:k<l.length):Gg l (k:Int)=some l[k]:=ZhC h
theorem Bv {a b:Nat}:decide ((a:Int)<(b:Int))=decide (a<b):=by simp
theorem AW {k:Nat} (h:k<1000000000000):Bj ((k:Int)+1):=by unfold Bj;omega
theorem Ty.size_pos (t:Ty):0<t.size:=by cases t;simp [Ty.size];omega
theorem Ty.size_eq (t:Ty):t.size=1+G9 t.elem+EM t.fields:=by cases t;simp [Ty.size,Ty.elem,Ty.fields]
theorem Nx:∀ (l:List (Int × ByteArray × Int × Ty × List Vl)) (p:Int × ByteArray × Int × Ty × List Vl),p∈l→p.2.2.2.1.size≤EM l
 | [],_,h=>by simp at h
 | (a,b,c,t,d)::r,p,h=>by
  rcases List.mem_cons.1 h with rfl | h
  ·simp [EM]
  ·have:=Nx r p h
   simp [EM];omega
theorem Ty.field_size (t:Ty) (p) (h:p∈t.fields):p.2.2.2.1.size<t.size:=by have:=Nx _ _ h;have:=t.size_eq;omega
theorem Vl.list_size (v x:Vl) (h:x∈v.list):x.size<v.size:=by have:=I9 _ _ h;have:=v.size_eq;omega
theorem Vl.field_size (v:Vl) (p) (h:p∈v.fields):p.2.size<v.size:=by have:=I3 _ _ h;have:=v.size_eq;omega
mutual
def Ty.depth:Ty→Nat
 | .mk _ _ _ _ _ e f=>1+max (J7 e) (Il f)
def J7:List Ty→Nat
 | []=>0
 | t::r=>max t.depth (J7 r)
def Il:List (Int × ByteArray × Int × Ty × List Vl)→Nat
 | []=>0
 | (_,_,_,t,_)::r=>max t.depth (Il r)
end
mutual
def Vl.ok:Vl→Prop
 | .mk _ _ _ t l f=>t.size≤1048576∧Zn l∧Zax f
def Zn:List Vl→Prop
 | []=>True
 | v::r=>v.ok∧Zn r
def Zax:List (ByteArray × Vl)→Prop
 | []=>True
 | (n,v)::r=>n.size≤1048576∧v.ok∧Zax r
end
theorem U0:∀ l,Zn l↔∀ v∈l,v.ok
 | []=>by simp [Zn]
 | v::r=>by simp [Zn,U0 r]
theorem SO:∀ l,Zax l↔∀ p∈l,p.1.size≤1048576∧p.2.ok
 | []=>by simp [Zax]
 | (n,v)::r=>by simp [Zax,SO r,and_assoc]
def Vl.small (v:Vl):Prop:=v.size≤1048575∧v.depth≤1048576∧v.ok
mutual
def Ty.ok:Ty→Prop
 | .mk _ _ _ _ w e f=>w.length≤1048576∧(∀ x∈w,x.size≤1048576)∧YU e∧SS f
def YU:List Ty→Prop
 | []=>True
 | v::r=>v.ok∧YU r
def SS:List (Int × ByteArray × Int × Ty × List Vl)→Prop
 | []=>True
 | (_,n,_,t,d)::r=>(n.size≤1048576∧t.ok∧d.length≤1048576∧∀ v∈d,v.small)∧SS r
end
theorem TA:∀ l,YU l↔∀ v∈l,v.ok
 | []=>by simp [YU]
 | v::r=>by simp [YU,TA r]
theorem QC:∀ l,SS l↔∀ p∈l,p.2.1.size≤1048576∧p.2.2.2.1.ok∧p.2.2.2.2.length≤1048576∧∀ v∈p.2.2.2.2,v.small
 | []=>by simp [SS]
 | (_,n,_,t,d)::r=>by simp [SS,QC r]
theorem Ty.ok_eq (t:Ty):t.ok↔t.words.length≤1048576∧(∀ x∈t.words,x.size≤1048576)∧(∀ v∈t.elem,v.ok)∧∀ p∈t.fields,p.2.1.size≤1048576∧p.2.2.2.1.ok∧p.2.2.2.2.length≤1048576∧∀ v∈p.2.2.2.2,v.small:=by
 cases t;simp only [Ty.ok,Ty.words,Ty.elem,Ty.fields,TA,QC]
theorem Vl.ok_eq (v:Vl):v.ok↔v.text.size≤1048576∧(∀ x∈v.list,x.ok)∧∀ p∈v.fields,p.1.size≤1048576∧p.2.ok:=by
 cases v;simp only [Vl.ok,Vl.text,Vl.list,Vl.fields,U0,SO]
theorem PM:∀ (l:List Ty) (d:Nat),J7 l≤d↔∀ v∈l,v.depth≤d
 | [],d=>by simp [J7]
 | v::r,d=>by simp [J7,Nat.max_le,PM r d]
theorem Nw:∀ (l:List (Int × ByteArray × Int × Ty × List Vl)) (d:Nat),Il l≤d↔∀ v∈l,v.2.2.2.1.depth≤d
 | [],d=>by simp [Il]
 | (_,_,_,t,_)::r,d=>by simp [Il,Nat.max_le,Nw r d]
theorem Ty.depth_eq (t:Ty):t.depth=1+Max.max (J7 t.elem) (Il t.fields):=by cases t;simp [Ty.depth,Ty.elem,Ty.fields]
theorem Vl.eta (v:Vl):Vl.mk v.kind v.int v.scale v.text v.list v.fields=v:=by cases v;rfl
theorem Ty.eta (v:Ty):Ty.mk v.kind v.min v.max v.scale v.words v.elem v.fields=v:=by cases v;rfl
abbrev TF:=Int × ByteArray × Int × Ty × List Vl
def Ty.small (t:Ty):Prop:=t.size≤600∧t.depth≤12∧t.ok
def En (rec:Vl→Int→Option Vl) (n:Nat) (q:Vl) (h:List Vl) (b:List (ByteArray × Vl)):Option Vl :=
 some (Vl.mk q.kind q.int q.scale (q.text.extract 0 ((if 40<(q.text.size:Int) then 40 else (q.text.size:Int))).toNat) h b)
def B8 (rec:Vl→Int→Option Vl) (n:Nat) (a0:Vl) (a1:Int):Nat→(List Vl)→(List (ByteArray × Vl))→Int→Option Vl
 | 0,_,_,_=>none
 | m+1,y,h,b =>
  if ((decide (b<(a0.fields.length:Int)))&&(decide (b<6)))&&(decide (1<a1)) then
   (Gg a0.fields b).bind fun q =>
   if 0≤0∧0≤(if 40<(q.1.size:Int) then 40 else (q.1.size:Int))∧(if 40<(q.1.size:Int) then 40 else (q.1.size:Int))≤(q.1.size:Int) then
    if Bj (a1-1) then
     (rec q.2 (a1-1)).bind fun y35 =>
     if (h.length+1)*104≤140737488355328∧h.length+1≤4611686018427387904 then
      if Bj (b+1) then
       (B8 rec n a0 a1 m) y (h++([(q.1.extract 0 ((if 40<(q.1.size:Int) then 40 else (q.1.size:Int))).toNat,y35)])) (b+1)
      else none
     else none
    else none
   else none
  else
   En rec n a0 y h
def ER (rec:Vl→Int→Option Vl) (n:Nat) (h:Vl) (q:Int) (b:List Vl):Option Vl :=
 B8 rec n h q n b ([]) 0
def Cb (rec:Vl→Int→Option Vl) (n:Nat) (y:Vl) (q:Int):Nat→(List Vl)→Int→Option Vl
 | 0,_,_=>none
 | m+1,h,b =>
  if ((decide (b<(y.list.length:Int)))&&(decide (b<6)))&&(decide (1<q)) then
   (Gg y.list b).bind fun x15 =>
   if Bj (q-1) then
    (rec x15 (q-1)).bind fun y17 =>
    if (h.length+1)*88≤140737488355328∧h.length+1≤4611686018427387904 then
     if Bj (b+1) then
      (Cb rec n y q m) (h++([y17])) (b+1)
     else none
    else none
   else none
  else
   ER rec n y q h
def D6 (rec:Vl→Int→Option Vl) (n:Nat) (b:Vl) (h:Int):Option Vl :=
 if 0≤0∧0≤(if 40<(b.text.size:Int) then 40 else (b.text.size:Int))∧(if 40<(b.text.size:Int) then 40 else (b.text.size:Int))≤(b.text.size:Int) then
  Cb rec n b h n ([]) 0
 else none
def Az:Nat→Vl→Int→Option Vl
 | 0,_,_=>none
 | n+1,b,h=>D6 (Az n) n b h
def GO (w0:World) (F:Vl→Int→Option Vl):Prop:=∀ (B:Aq) (Rw:Au) (L:Av) (b:Vl) (h:Int) (r:Vl),F b h=some r→ACalls Tryz.prog w0 21 [.agg (b.cs),Ak h] ⟨B,Rw,L⟩ fun x st=>x = .agg (r.cs)∧st=⟨B,Rw,L⟩
theorem Lm (w0:World) (rec:Vl→Int→Option Vl) (ih:GO w0 rec) (n:Nat):GO w0 (D6 rec n):=by
 intro B Rw L a0 a1 r h
 rw [D6] at h
 refine hd [.cell 4 49] Tryz.func21 Tryz.ntmps21 fun M0 W0 z y x t K w hs=>?_
 simp only [AL]
 refine rg [1,2,4] hs ?_
 obtain ⟨H,h⟩:=An h
 have hs:=Ad (Vl.cs_eqs a0) hs
 refine rg [1,2,4] hs ?_
 refine rg [1,2,4,5] hs ?_
 refine rg [1,2,4,5,6] hs ?_
 refine AZ (fun e st=>∃ (o:List Vl) (g:Ev.Own),Ck e st B Rw L [(1,true,Ak a1),(2,true,.box B.length 0),(4,true,.box (B.length+1) 0),(5,true,.list (o.map C4) g),(6,true,.list ([]) .full)] [[Ak a0.kind,Ak a0.int,Ak a0.scale,.val (.string (a0.text.extract 0 ((if 40<(a0.text.size:Int) then 40 else (a0.text.size:Int))).toNat)),.list (a0.list.map C4) .none,.list (a0.fields.map ID) .none],NT] [(6,o.length,g)] (ER rec n a0 a1 o=some r)) ?_ ?_
 ·intro K8 F
  refine rg [1,2,4,5,6,7] hs ?_
  apply As
  refine AN (fun m e st=>∃ (i:List Vl) (u:Int) (p:Ev.Own),Ck e st B Rw L [(1,true,Ak a1),(2,true,.box B.length 0),(4,true,.box (B.length+1) 0),(5,true,.list (i.map C4) p),(6,true,.list ([]) .full),(7,true,Ak u)] [[Ak a0.kind,Ak a0.int,Ak a0.scale,.val (.string (a0.text.extract 0 ((if 40<(a0.text.size:Int) then 40 else (a0.text.size:Int))).toNat)),.list (a0.list.map C4) .none,.list (a0.fields.map ID) .none],NT] [(6,i.length,p)] (Cb rec n a0 a1 m i u=some r)) n ⟨([]),0,.full,([]),Rw,ef hs,ef hs,Owns.of_eq ((w).full 6 0) Et,h⟩ ?_
  rintro ml10 e st ⟨i,u,p,Xl10,Rl10,rfl,rfl,w,h⟩ Ul10 Vl10
  cases ml10 with
  | zero=>cases h
  | succ ml10 =>
  rw [Cb] at h
  exact go (tg (a:=([1,2,4,5,6,7,29],([1,2,4,5,6,7],[1,2,4,5,6,7],[1,2,4,5,6,7],()),[1,2,4,5,6],()))) h hs z y x t w (q2 (ae OW JE) ih) (q2 F (fun e s=>Vl10 ml10 e s (Nat.lt_succ_self _)))
 ·clear h;rintro e st ⟨o,g,Xk7,Rk7,rfl,rfl,w,h⟩
  rw [ER] at h
  have E:=w.unders
  simp only [List.mem_cons,List.not_mem_nil,or_false,forall_eq_or_imp,forall_eq] at E
  refine td z y x t w ?_
  refine AZ (fun e st=>∃ (k:List Vl) (j:List (ByteArray × Vl)) (l:Ev.Own) (q:Ev.Own),Ck e st B Rw L [(2,true,.box B.length 0),(4,true,.box (B.length+1) 0),(5,true,.list (k.map C4) l),(6,true,.list (j.map ID) q)] [[Ak a0.kind,Ak a0.int,Ak a0.scale,.val (.string (a0.text.extract 0 ((if 40<(a0.text.size:Int) then 40 else (a0.text.size:Int))).toNat)),.list (a0.list.map C4) .none,.list (a0.fields.map ID) .none],NT] [(6,k.length,l),(7,j.length,q)] (En rec n a0 k j=some r)) ?_ ?_
  ·intro K25 D
   refine rg [1,2,4,5,6,8] hs ?_
   apply As
   refine AN (fun m e st=>∃ (b:List Vl) (f:List (ByteArray × Vl)) (v:Int) (c:Ev.Own) (d:Ev.Own),Ck e st B Rw L [(1,true,Ak a1),(2,true,.box B.length 0),(4,true,.box (B.length+1) 0),(5,true,.list (b.map C4) c),(6,true,.list (f.map ID) d),(8,true,Ak v)] [[Ak a0.kind,Ak a0.int,Ak a0.scale,.val (.string (a0.text.extract 0 ((if 40<(a0.text.size:Int) then 40 else (a0.text.size:Int))).toNat)),.list (a0.list.map C4) .none,.list (a0.fields.map ID) .none],NT] [(6,b.length,c),(7,f.length,d)] (B8 rec n a0 a1 m b f v=some r)) n ⟨o,([]),0,g,.full,([]),Rk7,ef hs,ef hs,Owns.of_eq (((w).full 7 0).swap (List.Perm.swap _ _ _)) Et,h⟩ ?_
   rintro ml27 e st ⟨b,f,v,c,d,Xl27,Rl27,rfl,rfl,w,h⟩ Ul27 Vl27
   cases ml27 with
   | zero=>cases h
   | succ ml27 =>
   rw [B8] at h
   have E:=w.unders
   simp only [List.mem_cons,List.not_mem_nil,or_false,forall_eq_or_imp,forall_eq] at E
   obtain ⟨G,J⟩:=E
   refine td z y x t w ?_
   apply Am;intro K28 C
   refine rg [1,2,4,5,6,8,55] hs ?_
   refine Gw h hs ?_ ?_<;>intro hs h
   rotate_left
   ·refine sx [2,4,5,6] hs D ?_
    exact ⟨b,f,c,d,([]),Rl27,ef hs,ef hs,Owns.of_eq (((w).swap (List.Perm.swap _ _ _)).swap (List.Perm.swap _ _ _)) Et,h⟩
   exact go (tg (a:=([1,2,4,5,6,8],[27,1,2,4,5,6,8],[1,2,4,5,6,8],()))) h hs z y x t w (q2 (ae Zgt XC) ih) (q2 C (fun e s=>Vl27 ml27 e s (Nat.lt_succ_self _)))
  ·clear h;rintro e st ⟨k,j,l,q,Xk24,Rk24,rfl,rfl,w,h⟩
   rw [En] at h
   exact go (tg (a:=([2,4],[4],()))) h hs z y x t w trivial trivial
theorem BL (w0:World):∀ n:Nat,GO w0 (Az n)
 | 0=>fun _ _ _ _ _ _ h=>(nomatch h)
 | n+1=>Lm w0 (Az n) (BL w0 n) n
def Ej (rec:Ex→Int→Option Ex) (n:Nat) (q:Ex) (h:List Vl) (b:List Ex):Option Ex :=
 some (Ex.mk q.op q.int (q.text.extract 0 ((if 60<(q.text.size:Int) then 60 else (q.text.size:Int))).toNat) h b)
def Ci (rec:Ex→Int→Option Ex) (n:Nat) (y:Ex) (a1:Int):Nat→(List Vl)→(List Ex)→Int→Option Ex
 | 0,_,_,_=>none
 | m+1,q,h,b =>
  if ((decide (b<(y.args.length:Int)))&&(decide (b<4)))&&(decide (1<a1)) then
   (Gg y.args b).bind fun x31 =>
   if Bj (a1-1) then
    (rec x31 (a1-1)).bind fun y33 =>
    if (h.length+1)*80≤140737488355328∧h.length+1≤4611686018427387904 then
     if Bj (b+1) then
      (Ci rec n y a1 m) q (h++([y33])) (b+1)
     else none
    else none
   else none
  else
   Ej rec n y q h
def EQ (rec:Ex→Int→Option Ex) (n:Nat) (h:Ex) (q:Int) (b:List Vl):Option Ex :=
 Ci rec n h q n b ([]) 0
def CV (rec:Ex→Int→Option Ex) (n:Nat) (q:Ex) (a1:Int):Nat→(List Vl)→Int→Option Ex
 | 0,_,_=>none
 | m+1,h,b =>
  if (decide (b<(q.value.length:Int)))&&(decide (b<2)) then
   (Gg q.value b).bind fun y =>
   (Az n y 2).bind fun y15 =>
   if (h.length+1)*88≤140737488355328∧h.length+1≤4611686018427387904 then
    if Bj (b+1) then
     (CV rec n q a1 m) (h++([y15])) (b+1)
    else none
   else none
  else
   EQ rec n q a1 h
def D4 (rec:Ex→Int→Option Ex) (n:Nat) (b:Ex) (h:Int):Option Ex :=
 if 0≤0∧0≤(if 60<(b.text.size:Int) then 60 else (b.text.size:Int))∧(if 60<(b.text.size:Int) then 60 else (b.text.size:Int))≤(b.text.size:Int) then
  CV rec n b h n ([]) 0
 else none
def Bo:Nat→Ex→Int→Option Ex
 | 0,_,_=>none
 | n+1,b,h=>D4 (Bo n) n b h
def GN (w0:World) (F:Ex→Int→Option Ex):Prop:=∀ (B:Aq) (Rw:Au) (L:Av) (b:Ex) (h:Int) (r:Ex),F b h=some r→ACalls Tryz.prog w0 43 [.agg (b.cs),Ak h] ⟨B,Rw,L⟩ fun x st=>x = .agg (r.cs)∧st=⟨B,Rw,L⟩
theorem Lr (w0:World) (rec:Ex→Int→Option Ex) (ih:GN w0 rec) (n:Nat):GN w0 (D4 rec n):=by
 intro B Rw L a0 a1 r h
 rw [D4] at h
 refine hd [.cell 4 83] Tryz.func43 Tryz.ntmps43 fun M0 W0 z y x l K w hs=>?_
 simp only [AL]
 refine rg [1,2,4] hs ?_
 obtain ⟨H,h⟩:=An h
 have hs:=Ad (Ex.cs_eqs a0) hs
 refine rg [1,2,4] hs ?_
 refine rg [1,2,4,5] hs ?_
 refine AZ (fun e st=>∃ (o:List Vl) (i:Ev.Own),Ck e st B Rw L [(1,true,Ak a1),(2,true,.box B.length 0),(4,true,.box (B.length+1) 0),(5,true,.list (o.map C4) i)] [[Ak a0.op,Ak a0.int,.val (.string (a0.text.extract 0 ((if 60<(a0.text.size:Int) then 60 else (a0.text.size:Int))).toNat)),.list (a0.value.map C4) .none,.list (a0.args.map GM) .none],[Ak 0,Ak 0,.val (.string (⟨#[]⟩:ByteArray)),.list ([]) .full,.list ([]) .full]] [(6,o.length,i)] (EQ rec n a0 a1 o=some r)) ?_ ?_
 ·intro K7 F
  refine rg [1,2,4,5,6] hs ?_
  apply As
  refine AN (fun m e st=>∃ (u:List Vl) (v:Int) (t:Ev.Own),Ck e st B Rw L [(1,true,Ak a1),(2,true,.box B.length 0),(4,true,.box (B.length+1) 0),(5,true,.list (u.map C4) t),(6,true,Ak v)] [[Ak a0.op,Ak a0.int,.val (.string (a0.text.extract 0 ((if 60<(a0.text.size:Int) then 60 else (a0.text.size:Int))).toNat)),.list (a0.value.map C4) .none,.list (a0.args.map GM) .none],[Ak 0,Ak 0,.val (.string (⟨#[]⟩:ByteArray)),.list ([]) .full,.list ([]) .full]] [(6,u.length,t)] (CV rec n a0 a1 m u v=some r)) n ⟨([]),0,.full,([]),Rw,ef hs,ef hs,Owns.of_eq ((w).full 6 0) Et,h⟩ ?_
  rintro ml9 e st ⟨u,v,t,Xl9,Rl9,rfl,rfl,w,h⟩ Ul9 Vl9
  cases ml9 with
  | zero=>cases h
  | succ ml9 =>
  rw [CV] at h
  exact go (tg (a:=([1,2,4,5,6,25],([1,2,4,5,6],[1,2,4,5,6],[1,2,4,5,6],()),[1,2,4,5],()))) h hs z y x l w (q2 (ae OW JE) (BL w0 n)) (q2 F (fun e s=>Vl9 ml9 e s (Nat.lt_succ_self _)))
 ·clear h;rintro e st ⟨o,i,Xk6,Rk6,rfl,rfl,w,h⟩
  rw [EQ] at h
  have E:=w.unders
  simp only [List.mem_cons,List.not_mem_nil,or_false,forall_eq_or_imp,forall_eq] at E
  refine td z y x l w ?_
  refine rg [1,2,4,5,7] hs ?_
  refine AZ (fun e st=>∃ (j:List Vl) (g:List Ex) (k:Ev.Own) (p:Ev.Own),Ck e st B Rw L [(2,true,.box B.length 0),(4,true,.box (B.length+1) 0),(5,true,.list (j.map C4) k),(7,true,.list (g.map GM) p)] [[Ak a0.op,Ak a0.int,.val (.string (a0.text.extract 0 ((if 60<(a0.text.size:Int) then 60 else (a0.text.size:Int))).toNat)),.list (a0.value.map C4) .none,.list (a0.args.map GM) .none],[Ak 0,Ak 0,.val (.string (⟨#[]⟩:ByteArray)),.list ([]) .full,.list ([]) .full]] [(6,j.length,k),(5,g.length,p)] (Ej rec n a0 j g=some r)) ?_ ?_
  ·intro K24 D
   refine rg [1,2,4,5,7,8] hs ?_
   apply As
   refine AN (fun m e st=>∃ (c:List Vl) (f:List Ex) (q:Int) (d:Ev.Own) (b:Ev.Own),Ck e st B Rw L [(1,true,Ak a1),(2,true,.box B.length 0),(4,true,.box (B.length+1) 0),(5,true,.list (c.map C4) d),(7,true,.list (f.map GM) b),(8,true,Ak q)] [[Ak a0.op,Ak a0.int,.val (.string (a0.text.extract 0 ((if 60<(a0.text.size:Int) then 60 else (a0.text.size:Int))).toNat)),.list (a0.value.map C4) .none,.list (a0.args.map GM) .none],[Ak 0,Ak 0,.val (.string (⟨#[]⟩:ByteArray)),.list ([]) .full,.list ([]) .full]] [(6,c.length,d),(5,f.length,b)] (Ci rec n a0 a1 m c f q=some r)) n ⟨o,([]),0,i,.full,([]),Rk6,ef hs,ef hs,Owns.of_eq (((w).full 5 0).swap (List.Perm.swap _ _ _)) Et,h⟩ ?_
   rintro ml26 e st ⟨c,f,q,d,b,Xl26,Rl26,rfl,rfl,w,h⟩ Ul26 Vl26
   cases ml26 with
   | zero=>cases h
   | succ ml26 =>
   rw [Ci] at h
   have E:=w.unders
   simp only [List.mem_cons,List.not_mem_nil,or_false,forall_eq_or_imp,forall_eq] at E
   obtain ⟨G,J⟩:=E
   refine td z y x l w ?_
   apply Am;intro K27 C
   refine rg [1,2,4,5,7,8,49] hs ?_
   refine Gw h hs ?_ ?_<;>intro hs h
   rotate_left
   ·refine sx [2,4,5,7] hs D ?_
    exact ⟨c,f,d,b,([]),Rl26,ef hs,ef hs,Owns.of_eq (((w).swap (List.Perm.swap _ _ _)).swap (List.Perm.swap _ _ _)) Et,h⟩
   exact go (tg (a:=([1,2,4,5,7,8],[1,2,4,5,7,8],[1,2,4,5,7,8],()))) h hs z y x l w (q2 (ae Zbg SK) ih) (q2 C (fun e s=>Vl26 ml26 e s (Nat.lt_succ_self _)))
  ·clear h;rintro e st ⟨j,g,k,p,Xk23,Rk23,rfl,rfl,w,h⟩
   rw [Ej] at h
   exact go (tg (a:=([2,4],[4],()))) h hs z y x l w trivial trivial
theorem Ig (w0:World):∀ n:Nat,GN w0 (Bo n)
 | 0=>fun _ _ _ _ _ _ h=>(nomatch h)
 | n+1=>Lr w0 (Bo n) (Ig w0 n) n
def GX (n:Nat)  (b2_k4_0:List (ByteArray × Ex)):Option ((List (ByteArray × Ex))) :=
 some (b2_k4_0)
def EK (n:Nat) (q:List (ByteArray × Ex)):Nat→Int→(List (ByteArray × Ex))→Option ((List (ByteArray × Ex)))
 | 0,_,_=>none
 | m+1,b,b2_l7_0 =>
  if (decide (b<(q.length:Int)))&&(decide (b<8)) then
   (Gg q b).bind fun h =>
   if 0≤0∧0≤(if 60<(h.1.size:Int) then 60 else (h.1.size:Int))∧(if 60<(h.1.size:Int) then 60 else (h.1.size:Int))≤(h.1.size:Int) then
    (Bo n h.2 4).bind fun y =>
    if (b2_l7_0.length+1)*96≤140737488355328∧b2_l7_0.length+1≤4611686018427387904 then
     if Bj (b+1) then
      (EK n q m) (b+1) (b2_l7_0++([(h.1.extract 0 ((if 60<(h.1.size:Int) then 60 else (h.1.size:Int))).toNat,y)]))
     else none
    else none
   else none
  else
   GX n b2_l7_0
def FI (n:Nat) (b:List (ByteArray × Ex)):Option ((List (ByteArray × Ex))) :=
 EK n b n 0 ([])
theorem GV (w0:World) (n:Nat) (B:Aq) (Rw:Au) (L:Av) (a0:List (ByteArray × Ex)) (r:(List (ByteArray × Ex))) (h:FI n a0=some r) :
  ACalls Tryz.prog w0 19 [.agg ([.list (a0.map BH) .none])] ⟨B,Rw,L⟩ fun x st=>x = .agg ([.list (r.map BH) .none])∧st=⟨B,Rw,L⟩:=by
 rw [FI] at h
 refine hd [.cell 2 30] Tryz.func19 Tryz.ntmps19 fun M0 W0 p j l i q k hs=>?_
 simp only [AL]
 refine rg [1,2] hs ?_
 refine rg [1,2,3] hs ?_
 refine AZ (fun e st=>∃ (c:List (ByteArray × Ex)) (d:Ev.Own),Ck e st B Rw L [(2,true,.box (B.length+1) 0),(3,true,.box (B.length+2) 0)] [[.list (a0.map BH) .none],[.list ([]) .full],[.list (c.map BH) d]] [(6,c.length,d)] (GX n c=some r)) ?_ ?_
 ·intro K5 o
  refine rg [1,2,3,4] hs ?_
  apply As
  refine AN (fun m e st=>∃ (g:Int) (b:List (ByteArray × Ex)) (f:Ev.Own),Ck e st B Rw L [(1,true,.box B.length 0),(2,true,.box (B.length+1) 0),(3,true,.box (B.length+2) 0),(4,true,Ak g)] [[.list (a0.map BH) .none],[.list ([]) .full],[.list (b.map BH) f]] [(6,b.length,f)] (EK n a0 m g b=some r)) n ⟨0,([]),.full,([]),Rw,ef hs,ef hs,Owns.of_eq ((k).full 6 0) Et,h⟩ ?_
  rintro ml7 e st ⟨g,b,f,Xl7,Rl7,rfl,rfl,k,h⟩ Ul7 Vl7
  cases ml7 with
  | zero=>cases h
  | succ ml7 =>
  rw [EK] at h
  exact go (tg (a:=([1,2,3,4,13],([1,2,3,4],[26,1,2,3,4],[1,2,3,4],()),[2,3],()))) h hs p j l i k (q2 (ae Zar Ug) (Ig w0 n)) (q2 o (fun e s=>Vl7 ml7 e s (Nat.lt_succ_self _)))
 ·clear h;rintro e st ⟨c,d,Xk4,Rk4,rfl,rfl,k,h⟩
  rw [GX] at h
  exact go (tg (a:=([2],()))) h hs p j l i k trivial trivial
section
variable {P:Program} {w0:World} {n:Nat} {l:List Oper} {ef dn:List Nat} {F:St→Prop} {T:Env→St→Prop} {k:Nat} {ev:Env} {s:St}
theorem gm1 {i:Nat} (_:Tg i) (hr:JB l ef dn=[i]) (hn:(ef.all fun i=>dn.contains i)=false) (hF:F s) (h:∃ o,l[i]? = some o∧o.guard=none∧dstOk n o.dst∧∃ Post:AV→St→Prop,OE P w0 (AB true l o ev) s o Post∧∀ v s',Post v s'→Ev.Good P w0 n l ef F T k (i::dn) (C0 ev o.dst true v) s'):Ev.Good P w0 n l ef F T (k+1) dn ev s :=
 Ev.Good.mk [i] hr hF (fun q=>by rw [hn] at q;cases q) (fun j hj=>by obtain rfl:=List.mem_singleton.1 hj;exact h)
theorem gm0 {L:List Nat} {nb:Nat} {e2:Env} (_:Tg L) (hr:JB l ef dn=[]) (hF:F s) (hT:Do L ev=e2):Ev.Good P w0 n l ef F (fun ev s'=>Conv w0 n nb ev s' e2 s) (k+1) dn ev s :=
 Ev.Good.mk [] hr hF (fun _=>J5 L hT) (fun i hi=>by cases hi)
theorem stI {o:Oper} {v:AV} {s':St} (h:Ee P w0 ev s o v s'):Ee P w0 ev s o v s':=h
theorem kpI {L:List Nat} {e e':Env} (h:Do L e=e'):Do L e=e':=h
end
theorem gd {T F p:Prop} (tL:T) (hs:F) (k:T→F→p:=by
  intro tL hs
  repeat' first
    | ((with_reducible refine gm1 (tgh tL) kr rfl ?_ ?_)<;>replace tL:=tgt tL)
    | (with_reducible apply gm0 tL kr)
    | (apply G1 rfl rfl ev
       case' hs=>((simp +decide only [go_sem,Nat.reduceAdd,Ee,hs]);(repeat' apply Ad)<;>first | rfl | exact cl)
       case' hk=>simp +decide only [go_sem,Nat.reduceAdd,hs])
    | ((with_reducible refine stI ?_);simp +decide only [go_sem,Nat.reduceAdd,Ee,hs];(repeat' apply Ad)<;>first | rfl | exact cl)
    | ((with_reducible apply kpI);first | (simp +decide only [go_sem,Nat.reduceAdd,hs];done) | (simp +decide only [go_sem,Nat.reduceAdd,hs];rfl) | (simp +decide only [go_sem,Nat.reduceAdd,and_self,imp_self,hs];done) | (simp +decide only [go_sem,Nat.reduceAdd,and_self,imp_self,hs];rfl))
    | exact ⟨[],_,rfl⟩
    | exact ⟨[],_,_,rfl⟩
    | exact ⟨[],_,_,_,rfl⟩
    | exact ⟨_,_,rfl⟩
    | exact ⟨_,_,_,rfl⟩
    | exact ⟨[],_,by simp only [List.append_nil,List.nil_append]⟩
    | exact ⟨[],_,_,by simp only [List.append_nil,List.nil_append]⟩
    | exact ⟨_,_,by simp only [List.append_nil,List.nil_append]⟩):p:=k tL hs
def E0 (rec:Ty→Int→Option Ty) (n:Nat) (h:(List ByteArray)→(List Ty)→(List (Int × ByteArray × Int × Ty × List Vl))→Int→Option Ty) (b:Int) (q:List ByteArray) (x6_k47:List Ty) (y:List (Int × ByteArray × Int × Ty × List Vl)):Option Ty :=
 if Bj (b+1) then
  h q x6_k47 y (b+1)
 else none
def EY (rec:Ty→Int→Option Ty) (n:Nat) (y:Ty) (b:List ByteArray) (h:List Ty) (q:List (Int × ByteArray × Int × Ty × List Vl)):Option Ty :=
 some (Ty.mk y.kind y.min y.max y.scale b h q)
def DI (rec:Ty→Int→Option Ty) (n:Nat) (q:(List ByteArray)→(List Ty)→(List (Int × ByteArray × Int × Ty × List Vl))→Int→Option Ty) (a1:Int) (x10_l42:Int) (b:Int × ByteArray × Int × Ty × List Vl) (x5_k53:List ByteArray) (x6_k53:List Ty) (h:List (Int × ByteArray × Int × Ty × List Vl)) (y:List Vl):Option Ty :=
 if 0≤0∧0≤(if 40<(b.2.1.size:Int) then 40 else (b.2.1.size:Int))∧(if 40<(b.2.1.size:Int) then 40 else (b.2.1.size:Int))≤(b.2.1.size:Int) then
  if Bj (a1-1) then
   (rec b.2.2.2.1 (a1-1)).bind fun y71 =>
   if (h.length+1)*160≤140737488355328∧h.length+1≤4611686018427387904 then
    E0 rec n q x10_l42 x5_k53 x6_k53 (h++([(b.1,b.2.1.extract 0 ((if 40<(b.2.1.size:Int) then 40 else (b.2.1.size:Int))).toNat,b.2.2.1,y71,y)]))
   else none
  else none
 else none
def BX (rec:Ty→Int→Option Ty) (n:Nat) (q:(List ByteArray)→(List Ty)→(List (Int × ByteArray × Int × Ty × List Vl))→Int→Option Ty) (a1:Int) (y:Int) (x50:Int × ByteArray × Int × Ty × List Vl):Nat→(List ByteArray)→(List Ty)→(List (Int × ByteArray × Int × Ty × List Vl))→(List Vl)→Int→Option Ty
 | 0,_,_,_,_,_=>none
 | m+1,x5_l56,x6_l56,x7_l56,h,b =>
  if (decide (b<(x50.2.2.2.2.length:Int)))&&(decide (b<2)) then
   (Gg x50.2.2.2.2 b).bind fun x61 =>
   (Az n x61 3).bind fun y62 =>
   if (h.length+1)*88≤140737488355328∧h.length+1≤4611686018427387904 then
    if Bj (b+1) then
     (BX rec n q a1 y x50 m) x5_l56 x6_l56 x7_l56 (h++([y62])) (b+1)
    else none
   else none
  else
   DI rec n q a1 y x50 x5_l56 x6_l56 x7_l56 h
def A9 (rec:Ty→Int→Option Ty) (n:Nat) (a0:Ty) (a1:Int):Nat→(List ByteArray)→(List Ty)→(List (Int × ByteArray × Int × Ty × List Vl))→Int→Option Ty
 | 0,_,_,_,_=>none
 | m+1,q,h,y,b =>
  if ((decide (b<(a0.fields.length:Int)))&&(decide (b<6)))&&(decide (1<a1)) then
   (Gg a0.fields b).bind fun x50 =>
   BX rec n (A9 rec n a0 a1 m) a1 b x50 n q h y ([]) 0
  else
   EY rec n a0 q h y
def EU (rec:Ty→Int→Option Ty) (n:Nat) (q:Ty) (y:Int) (b:List ByteArray) (h:List Ty):Option Ty :=
 A9 rec n q y n b h ([]) 0
def CW (rec:Ty→Int→Option Ty) (n:Nat) (a0:Ty) (y:Int):Nat→(List ByteArray)→(List Ty)→Int→Option Ty
 | 0,_,_,_=>none
 | m+1,q,h,b =>
  if ((decide (b<(a0.elem.length:Int)))&&(decide (b<2)))&&(decide (1<y)) then
   (Gg a0.elem b).bind fun x30 =>
   if Bj (y-1) then
    (rec x30 (y-1)).bind fun y32 =>
    if (h.length+1)*104≤140737488355328∧h.length+1≤4611686018427387904 then
     if Bj (b+1) then
      (CW rec n a0 y m) q (h++([y32])) (b+1)
     else none
    else none
   else none
  else
   EU rec n a0 y q h
def Fe (rec:Ty→Int→Option Ty) (n:Nat) (h:Ty) (q:Int) (b:List ByteArray):Option Ty :=
 CW rec n h q n b ([]) 0
def Dc (rec:Ty→Int→Option Ty) (n:Nat) (y:Ty) (a1:Int):Nat→(List ByteArray)→Int→Option Ty
 | 0,_,_=>none
 | m+1,h,b =>
  if (decide (b<(y.words.length:Int)))&&(decide (b<6)) then
   (Gg y.words b).bind fun q =>
   if 0≤0∧0≤(if 40<(q.size:Int) then 40 else (q.size:Int))∧(if 40<(q.size:Int) then 40 else (q.size:Int))≤(q.size:Int) then
    if (h.length+1)*16≤140737488355328∧h.length+1≤4611686018427387904 then
     if Bj (b+1) then
      (Dc rec n y a1 m) (h++([q.extract 0 ((if 40<(q.size:Int) then 40 else (q.size:Int))).toNat])) (b+1)
     else none
    else none
   else none
  else
   Fe rec n y a1 h
def EH (rec:Ty→Int→Option Ty) (n:Nat) (b:Ty) (h:Int):Option Ty :=
 Dc rec n b h n ([]) 0
def Bm:Nat→Ty→Int→Option Ty
 | 0,_,_=>none
 | n+1,b,h=>EH (Bm n) n b h
def Ht (w0:World) (F:Ty→Int→Option Ty):Prop:=∀ (B:Aq) (Rw:Au) (L:Av) (b:Ty) (h:Int) (r:Ty),F b h=some r→ACalls Tryz.prog w0 20 [.agg (b.cs),Ak h] ⟨B,Rw,L⟩ fun x st=>x = .agg (r.cs)∧st=⟨B,Rw,L⟩
theorem LO (w0:World) (rec:Ty→Int→Option Ty) (ih:Ht w0 rec) (n:Nat):Ht w0 (EH rec n):=by
 intro B Rw L a0 a1 r h
 rw [EH] at h
 refine hd [.cell 4 26] Tryz.func20 Tryz.ntmps20 fun M0 W0 hN a3 a4 j hu i hs=>?_
 simp only [AL]
 refine rg [1,2,4] hs ?_
 refine rg [1,2,4,5] hs ?_
 refine rg [1,2,4,5,6] hs ?_
 refine rg [1,2,4,5,6,7] hs ?_
 refine AZ (fun e st=>∃ (a2:List ByteArray) (av:Ev.Own),Ck e st B Rw L [(1,true,Ak a1),(2,true,.box B.length 0),(4,true,.box (B.length+1) 0),(5,true,.list (a2.map IL) av),(6,true,.list ([]) .full),(7,true,.list ([]) .full)] [a0.cs,[Ak 0,Ak 0,Ak 0,Ak 0,.list ([]) .full,.list ([]) .full,.list ([]) .full]] [(1,a2.length,av)] (Fe rec n a0 a1 a2=some r)) ?_ ?_
 ·intro K7 bx
  refine rg [1,2,4,5,6,7,8] hs ?_
  apply As
  refine AN (fun m e st=>∃ (a6:List ByteArray) (a9:Int) (a8:Ev.Own),Ck e st B Rw L [(1,true,Ak a1),(2,true,.box B.length 0),(4,true,.box (B.length+1) 0),(5,true,.list (a6.map IL) a8),(6,true,.list ([]) .full),(7,true,.list ([]) .full),(8,true,Ak a9)] [a0.cs,[Ak 0,Ak 0,Ak 0,Ak 0,.list ([]) .full,.list ([]) .full,.list ([]) .full]] [(1,a6.length,a8)] (Dc rec n a0 a1 m a6 a9=some r)) n ⟨([]),0,.full,([]),Rw,ef hs,ef hs,Owns.of_eq ((i).full 1 0) Et,h⟩ ?_
  rintro ml9 e st ⟨a6,a9,a8,Xl9,Rl9,rfl,rfl,i,h⟩ Ul9 Vl9
  cases ml9 with
  | zero=>cases h
  | succ ml9 =>
  rw [Dc] at h
  exact go (tg (a:=([1,2,4,5,6,7,8,22],([1,2,4,5,6,7,8],[15,1,2,4,5,6,7,8],[1,2,4,5,6,7,8],()),[1,2,4,5,6,7],()))) h hs hN a3 a4 j i (q1 (ae ZhB Zeh)) (q2 bx (fun e s=>Vl9 ml9 e s (Nat.lt_succ_self _)))
 ·clear h;rintro e st ⟨a2,av,Xk6,Rk6,rfl,rfl,i,h⟩
  rw [Fe] at h
  have hU:=i.unders
  simp only [List.mem_cons,List.not_mem_nil,or_false,forall_eq_or_imp,forall_eq] at hU
  refine td hN a3 a4 j i ?_
  refine AZ (fun e st=>∃ (Q:List ByteArray) (Z:List Ty) (ai:Ev.Own) (aj:Ev.Own),Ck e st B Rw L [(1,true,Ak a1),(2,true,.box B.length 0),(4,true,.box (B.length+1) 0),(5,true,.list (Q.map IL) ai),(6,true,.list (Z.map EV) aj),(7,true,.list ([]) .full)] [a0.cs,[Ak 0,Ak 0,Ak 0,Ak 0,.list ([]) .full,.list ([]) .full,.list ([]) .full]] [(1,Q.length,ai),(7,Z.length,aj)] (EU rec n a0 a1 Q Z=some r)) ?_ ?_
  ·intro K23 bq
   refine rg [1,2,4,5,6,7,9] hs ?_
   apply As
   refine AN (fun m e st=>∃ (ag:List ByteArray) (aa:List Ty) (a7:Int) (U:Ev.Own) (V:Ev.Own),Ck e st B Rw L [(1,true,Ak a1),(2,true,.box B.length 0),(4,true,.box (B.length+1) 0),(5,true,.list (ag.map IL) U),(6,true,.list (aa.map EV) V),(7,true,.list ([]) .full),(9,true,Ak a7)] [a0.cs,[Ak 0,Ak 0,Ak 0,Ak 0,.list ([]) .full,.list ([]) .full,.list ([]) .full]] [(1,ag.length,U),(7,aa.length,V)] (CW rec n a0 a1 m ag aa a7=some r)) n ⟨a2,([]),0,av,.full,([]),Rk6,ef hs,ef hs,Owns.of_eq (((i).full 7 0).swap (List.Perm.swap _ _ _)) Et,h⟩ ?_
   rintro ml25 e st ⟨ag,aa,a7,U,V,Xl25,Rl25,rfl,rfl,i,h⟩ Ul25 Vl25
   cases ml25 with
   | zero=>cases h
   | succ ml25 =>
   rw [CW] at h
   have hU:=i.unders
   simp only [List.mem_cons,List.not_mem_nil,or_false,forall_eq_or_imp,forall_eq] at hU
   obtain ⟨bb,ba⟩:=hU
   refine td hN a3 a4 j i ?_
   apply Am;intro K26 bp
   refine rg [1,2,4,5,6,7,9,53] hs ?_
   refine Gw h hs ?_ ?_<;>intro hs h
   rotate_left
   ·refine sx [1,2,4,5,6,7] hs bq ?_
    exact ⟨ag,aa,U,V,([]),Rl25,ef hs,ef hs,Owns.of_eq (((i).swap (List.Perm.swap _ _ _)).swap (List.Perm.swap _ _ _)) Et,h⟩
   exact go (tg (a:=([1,2,4,5,6,7,9],[1,2,4,5,6,7,9],[1,2,4,5,6,7,9],()))) h hs hN a3 a4 j i (q2 (ae Y7 SV) ih) (q2 bp (fun e s=>Vl25 ml25 e s (Nat.lt_succ_self _)))
  ·clear h;rintro e st ⟨Q,Z,ai,aj,Xk22,Rk22,rfl,rfl,i,h⟩
   rw [EU] at h
   have hU:=i.unders
   simp only [List.mem_cons,List.not_mem_nil,or_false,forall_eq_or_imp,forall_eq] at hU
   obtain ⟨bb,ba⟩:=hU
   refine td hN a3 a4 j i ?_
   refine AZ (fun e st=>∃ (au:List ByteArray) (ar:List Ty) (aq:List (Int × ByteArray × Int × Ty × List Vl)) (ax:Ev.Own) (aw:Ev.Own) (ay:Ev.Own),Ck e st B Rw L [(2,true,.box B.length 0),(4,true,.box (B.length+1) 0),(5,true,.list (au.map IL) ax),(6,true,.list (ar.map EV) aw),(7,true,.list (aq.map FM) ay)] [a0.cs,[Ak 0,Ak 0,Ak 0,Ak 0,.list ([]) .full,.list ([]) .full,.list ([]) .full]] [(1,au.length,ax),(7,ar.length,aw),(11,aq.length,ay)] (EY rec n a0 au ar aq=some r)) ?_ ?_
   ·intro K40 bt
    refine rg [1,2,4,5,6,7,10] hs ?_
    apply As
    refine AN (fun m e st=>∃ (H:List ByteArray) (J:List Ty) (F:List (Int × ByteArray × Int × Ty × List Vl)) (c:Int) (t:Ev.Own) (w:Ev.Own) (o:Ev.Own),Ck e st B Rw L [(1,true,Ak a1),(2,true,.box B.length 0),(4,true,.box (B.length+1) 0),(5,true,.list (H.map IL) t),(6,true,.list (J.map EV) w),(7,true,.list (F.map FM) o),(10,true,Ak c)] [a0.cs,[Ak 0,Ak 0,Ak 0,Ak 0,.list ([]) .full,.list ([]) .full,.list ([]) .full]] [(1,H.length,t),(7,J.length,w),(11,F.length,o)] (A9 rec n a0 a1 m H J F c=some r)) n ⟨Q,Z,([]),0,ai,aj,.full,([]),Rk22,ef hs,ef hs,Owns.of_eq ((((i).full 11 0).swap ((List.Perm.cons _ (List.Perm.swap _ _ _)).trans (List.Perm.swap _ _ _))).swap ((List.Perm.cons _ (List.Perm.swap _ _ _)).trans (List.Perm.swap _ _ _))) Et,h⟩ ?_
    rintro ml42 e st ⟨H,J,F,c,t,w,o,Xl42,Rl42,rfl,rfl,i,h⟩ Ul42 Vl42
    cases ml42 with
    | zero=>cases h
    | succ ml42 =>
    rw [A9] at h
    have hU:=i.unders
    simp only [List.mem_cons,List.not_mem_nil,or_false,forall_eq_or_imp,forall_eq] at hU
    obtain ⟨bb,ba,bm⟩:=hU
    refine td hN a3 a4 j i ?_
    apply Am;intro K43 bf
    refine rg [1,2,4,5,6,7,10,79] hs ?_
    refine Gw h hs ?_ ?_<;>intro hs h
    rotate_left
    ·have a5:=hs.1
     refine sx [2,4,5,6,7] hs bt ?_
     exact ⟨H,J,F,t,w,o,([]),Rl42,ef hs,ef hs,Owns.of_eq ((((i).swap ((List.Perm.cons _ (List.Perm.swap _ _ _)).trans (List.Perm.swap _ _ _))).swap ((List.Perm.cons _ (List.Perm.swap _ _ _)).trans (List.Perm.swap _ _ _))).swap ((List.Perm.cons _ (List.Perm.swap _ _ _)).trans (List.Perm.swap _ _ _))) Et,h⟩
    have a5:=hs.1
    refine sk [1,2,4,5,6,7,10] hs bf ?_
    clear bf
    refine AZ (fun e st=>∃ (ad:List ByteArray) (Y:List Ty) (ak:List (Int × ByteArray × Int × Ty × List Vl)) (am:Ev.Own) (ah:Ev.Own) (ab:Ev.Own),Ck e st B Rw L [(1,true,Ak a1),(2,true,.box B.length 0),(4,true,.box (B.length+1) 0),(5,true,.list (ad.map IL) am),(6,true,.list (Y.map EV) ah),(7,true,.list (ak.map FM) ab),(10,true,Ak c)] [a0.cs,[Ak 0,Ak 0,Ak 0,Ak 0,.list ([]) .full,.list ([]) .full,.list ([]) .full]] [(1,ad.length,am),(7,Y.length,ah),(11,ak.length,ab)] (E0 rec n (A9 rec n a0 a1 ml42) c ad Y ak=some r)) ?_ ?_
    ·intro K48 bu
     apply As
     obtain ⟨b,br,h⟩:=bind_some h
     obtain ⟨bz,bw,bl⟩:=E8 br
     have O:=E6 (f:=FM) bl
     have hs:=Ad O hs
     refine rg [1,2,4,5,6,7,10,11] hs ?_
     refine rg [1,2,4,5,6,7,10,11,12] hs ?_
     refine AZ (fun e st=>∃ (C:List ByteArray) (E:List Ty) (l:List (Int × ByteArray × Int × Ty × List Vl)) (d:List Vl) (q:Ev.Own) (p:Ev.Own) (az:Ev.Own) (k:Ev.Own),Ck e st B Rw L [(1,true,Ak a1),(2,true,.box B.length 0),(4,true,.box (B.length+1) 0),(5,true,.list (C.map IL) q),(6,true,.list (E.map EV) p),(7,true,.list (l.map FM) az),(10,true,Ak c),(11,true,.box (B.length+2) 0),(12,true,.list (d.map C4) k)] [a0.cs,[Ak 0,Ak 0,Ak 0,Ak 0,.list ([]) .full,.list ([]) .full,.list ([]) .full],Ak b.1::(.val (.string b.2.1)::(Ak b.2.2.1::((b.2.2.2.1.cs)++([.list (b.2.2.2.2.map C4) .none]))))] [(1,C.length,q),(7,E.length,p),(11,l.length,az),(6,d.length,k)] (DI rec n (A9 rec n a0 a1 ml42) a1 c b C E l d=some r)) ?_ ?_
     ·intro K54 bo
      refine rg [1,2,4,5,6,7,10,11,12,13] hs ?_
      apply As
      refine AN (fun m e st=>∃ (K:List ByteArray) (D:List Ty) (G:List (Int × ByteArray × Int × Ty × List Vl)) (g:List Vl) (af:Int) (u:Ev.Own) (z:Ev.Own) (x:Ev.Own) (N:Ev.Own),Ck e st B Rw L [(1,true,Ak a1),(2,true,.box B.length 0),(4,true,.box (B.length+1) 0),(5,true,.list (K.map IL) u),(6,true,.list (D.map EV) z),(7,true,.list (G.map FM) x),(10,true,Ak c),(11,true,.box (B.length+2) 0),(12,true,.list (g.map C4) N),(13,true,Ak af)] [a0.cs,[Ak 0,Ak 0,Ak 0,Ak 0,.list ([]) .full,.list ([]) .full,.list ([]) .full],Ak b.1::(.val (.string b.2.1)::(Ak b.2.2.1::((b.2.2.2.1.cs)++([.list (b.2.2.2.2.map C4) .none]))))] [(1,K.length,u),(7,D.length,z),(11,G.length,x),(6,g.length,N)] (BX rec n (A9 rec n a0 a1 ml42) a1 c b m K D G g af=some r)) n ⟨H,J,F,([]),0,t,w,o,.full,([]),Rl42,ef hs,ef hs,Owns.of_eq (((((i).full 6 0).swap ((List.Perm.cons _ ((List.Perm.cons _ (List.Perm.swap _ _ _)).trans (List.Perm.swap _ _ _))).trans (List.Perm.swap _ _ _))).swap ((List.Perm.cons _ ((List.Perm.cons _ (List.Perm.swap _ _ _)).trans (List.Perm.swap _ _ _))).trans (List.Perm.swap _ _ _))).swap ((List.Perm.cons _ ((List.Perm.cons _ (List.Perm.swap _ _ _)).trans (List.Perm.swap _ _ _))).trans (List.Perm.swap _ _ _))) Et,h⟩ ?_
      rintro ml56 e st ⟨K,D,G,g,af,u,z,x,N,Xl56,Rl56,rfl,rfl,i,h⟩ Ul56 Vl56
      cases ml56 with
      | zero=>cases h
      | succ ml56 =>
      rw [BX] at h
      have hU:=i.unders
      simp only [List.mem_cons,List.not_mem_nil,or_false,forall_eq_or_imp,forall_eq] at hU
      obtain ⟨bb,ba,bm,b0⟩:=hU
      refine td hN a3 a4 j i ?_
      apply Am;intro K57 bk
      refine rg [1,2,4,5,6,7,10,11,12,13,95] hs ?_
      refine Gw h hs ?_ ?_<;>intro hs h
      rotate_left
      ·refine sx [1,2,4,5,6,7,10,11,12] hs bo ?_
       exact ⟨K,D,G,g,u,z,x,N,([]),Rl56,ef hs,ef hs,Owns.of_eq (((((i).swap ((List.Perm.cons _ ((List.Perm.cons _ (List.Perm.swap _ _ _)).trans (List.Perm.swap _ _ _))).trans (List.Perm.swap _ _ _))).swap ((List.Perm.cons _ ((List.Perm.cons _ (List.Perm.swap _ _ _)).trans (List.Perm.swap _ _ _))).trans (List.Perm.swap _ _ _))).swap ((List.Perm.cons _ ((List.Perm.cons _ (List.Perm.swap _ _ _)).trans (List.Perm.swap _ _ _))).trans (List.Perm.swap _ _ _))).swap ((List.Perm.cons _ ((List.Perm.cons _ (List.Perm.swap _ _ _)).trans (List.Perm.swap _ _ _))).trans (List.Perm.swap _ _ _))) Et,h⟩
      refine sk [1,2,4,5,6,7,10,11,12,13] hs bk ?_
      clear bk
      apply Am;intro K60 bg
      apply As
      obtain ⟨b4,b2,b5,bn,h⟩:=ix C4 h
      obtain ⟨b1,bs,h⟩:=bind_some h
      obtain ⟨bj,h⟩:=An h
      have i:=i.swap ((List.Perm.cons _ ((List.Perm.cons _ (List.Perm.swap _ _ _)).trans (List.Perm.swap _ _ _))).trans (List.Perm.swap _ _ _))
      obtain ⟨b3,bd,i,ao⟩:=i.append (P:=Tryz.prog) OW (by rw [JE];rfl) (by decide) 1 bj.1 bj.2
      replace ao:=fun (ys:List AV) B L o2=>ao (g.map C4) ys B L o2 Et
      replace ao:=fun (y:AV) B L o2=>ao [y] B L o2 Et ev
      try simp only [List.mem_singleton,List.mem_cons,List.not_mem_nil,or_false,forall_eq_or_imp,forall_eq,List.map_append,List.map_cons,List.map_nil,Hv,Hh,Hy,G4,Hm,G5,FR,FX,Hw,D3,D9,Gf,F2,FV,Hg,FQ,He] at ao
      have hs:=Ad bn hs
      have hs:=Ad ao hs
      refine rk 2 [1,2,4,5,6,7,10,11,12,13] hs ?_
      refine Ax _ (BL w0 n _ _ _ b4 3 _ bs) (hv hs) ?_
      refine ne hs bg ?_
      clear bg
      obtain ⟨b8,h⟩:=An h
      refine rl [1,2,4,5,6,7,10,11,12,13] hs (fun e s=>Vl56 ml56 e s (Nat.lt_succ_self _)) ?_
      exact ⟨K,D,G,(g++([b1])),(af+1),u,z,x,b3,([]),bd,ef hs,ef hs,Owns.of_eq ((((i).swap ((List.Perm.cons _ ((List.Perm.cons _ (List.Perm.swap _ _ _)).trans (List.Perm.swap _ _ _))).trans (List.Perm.swap _ _ _))).swap ((List.Perm.cons _ ((List.Perm.cons _ (List.Perm.swap _ _ _)).trans (List.Perm.swap _ _ _))).trans (List.Perm.swap _ _ _))).swap ((List.Perm.cons _ ((List.Perm.cons _ (List.Perm.swap _ _ _)).trans (List.Perm.swap _ _ _))).trans (List.Perm.swap _ _ _))) Et,h⟩
     ·clear h;rintro e st ⟨C,E,l,d,q,p,az,k,Xk53,Rk53,rfl,rfl,i,h⟩
      rw [DI] at h
      have hU:=i.unders
      simp only [List.mem_cons,List.not_mem_nil,or_false,forall_eq_or_imp,forall_eq] at hU
      obtain ⟨bb,ba,bm,b0⟩:=hU
      refine td hN a3 a4 j i ?_
      apply Am;intro K68 bi
      obtain ⟨b6,h⟩:=An h
      obtain ⟨b9,h⟩:=An h
      obtain ⟨v,be,h⟩:=bind_some h
      apply Jk NZ [14,16,18] [1,3,8] [1,2,4,5,6,7,10,11] kr (fun s=>∃ (X:Aq) (rows:Au) (c2:List AV),s=⟨B++([a0.cs,[Ak 0,Ak 0,Ak 0,Ak 0,.list ([]) .full,.list ([]) .full,.list ([]) .full],c2]++X),rows,L⟩) 4 (B.length+3)
      ·simp +decide only [go_sem,Nat.reduceAdd]
      ·refine ⟨2,?_⟩
       rw [Ao];simp +decide only [go_sem,Nat.reduceAdd,Bd,a5,O,Ty.cs_eqs b.2.2.2.1,Ty.cs_eqs v]
       have hs:=Ad (Ty.cs_eqs b.2.2.2.1) hs
       have hs:=Ad (Ty.cs_eqs v) hs
       (repeat' apply Ad)<;>first | refine Ax _ (ih _ _ _ b.2.2.2.1 (a1-1) _ be) (hv hs) ?_ | exact cl
       rw [Ao];simp +decide only [go_sem,Nat.reduceAdd,a5,O,Ty.cs_eqs b.2.2.2.1,Ty.cs_eqs v]
       (repeat' apply Ad)<;>first | rfl | exact cl
      ·rintro s ⟨X,rows,c2,rfl⟩
       refine ⟨2,?_⟩
       rw [Ao];simp +decide only [go_sem,Nat.reduceAdd,Bd,List.append_eq,List.cons_append,List.nil_append,a5,O,Ty.cs_eqs b.2.2.2.1,Ty.cs_eqs v]
       have hs:=Ad (Ty.cs_eqs b.2.2.2.1) hs
       have hs:=Ad (Ty.cs_eqs v) hs
       (repeat' apply Ad)<;>first | refine Ax _ (ih _ _ _ b.2.2.2.1 (a1-1) _ be) (hv hs) ?_ | exact cl
       rw [Ao];simp +decide only [go_sem,Nat.reduceAdd,a5,O,Ty.cs_eqs b.2.2.2.1,Ty.cs_eqs v]
       (repeat' apply Ad)<;>first | rfl | ((repeat (first | exact .nil | refine .cons (ef hs) ?_));done) | exact cl
      ·exact gd (tg (a:=(14,16,18,[1,2,4,5,6,7,10,11]))) (Ad (Ty.cs_eqs v) (Ad (Ty.cs_eqs b.2.2.2.1) (Ad O hs)))
      simp +decide only [go_sem,Nat.reduceAdd,a5,O,Ty.cs_eqs b.2.2.2.1,Ty.cs_eqs v]
      (repeat' apply Ad)<;>first | refine bi _ _ ?_ | exact cl
      clear bi
      obtain ⟨bh,h⟩:=An h
      have i:=i.swap ((List.Perm.cons _ (List.Perm.swap _ _ _)).trans (List.Perm.swap _ _ _))
      obtain ⟨bv,bc,i,ap⟩:=i.append (P:=Tryz.prog) ZgA (by rw [Yx];rfl) (by decide) 1 bh.1 bh.2
      replace ap:=fun (ys:List AV) B L o2=>ap (l.map FM) ys B L o2 Et
      replace ap:=fun (y:AV) B L o2=>ap [y] B L o2 Et ev
      try simp only [List.mem_singleton,List.mem_cons,List.not_mem_nil,or_false,forall_eq_or_imp,forall_eq,List.map_append,List.map_cons,List.map_nil,Hv,Hh,Hy,G4,Hm,G5,FR,FX,Hw,D3,D9,Gf,F2,FV,Hg,FQ,He] at ap
      have hs:=Ad (Ty.cs_eqs b.2.2.2.1) hs
      have hs:=Ad (Ty.cs_eqs v) hs
      have hs:=Ad ap hs
      refine rl [1,2,4,5,6,7,10] hs bu ?_
      exact ⟨C,E,(l++([(b.1,b.2.1.extract 0 ((if 40<(b.2.1.size:Int) then 40 else (b.2.1.size:Int))).toNat,b.2.2.1,v,d)])),q,p,bv,([[Ak b.1,.val (.string (b.2.1.extract 0 ((if 40<(b.2.1.size:Int) then 40 else (b.2.1.size:Int))).toNat)),Ak b.2.2.1,Ak v.kind,Ak v.min,Ak v.max,Ak v.scale,.list (v.words.map IL) .none,.list (v.elem.map EV) .none,.list (v.fields.map FM) .none,.list (d.map C4) k]]),bc,ef hs,ef hs,Owns.of_eq ((((i).swap ((List.Perm.cons _ (List.Perm.swap _ _ _)).trans (List.Perm.swap _ _ _))).swap ((List.Perm.cons _ (List.Perm.swap _ _ _)).trans (List.Perm.swap _ _ _))).sub (List.sublist_append_left [(1,C.length,q),(7,E.length,p),(11,l.length+1,bv)] [(6,d.length,k)])) Et,h⟩
    ·clear h;rintro e st ⟨ad,Y,ak,am,ah,ab,Xk47,Rk47,rfl,rfl,i,h⟩
     rw [E0] at h
     have hU:=i.unders
     simp only [List.mem_cons,List.not_mem_nil,or_false,forall_eq_or_imp,forall_eq] at hU
     obtain ⟨bb,ba,bm⟩:=hU
     refine td hN a3 a4 j i ?_
     obtain ⟨b7,h⟩:=An h
     refine rl [1,2,4,5,6,7,10] hs (fun e s=>Vl42 ml42 e s (Nat.lt_succ_self _)) ?_
     exact ⟨ad,Y,ak,(c+1),am,ah,ab,([]),Rk47,ef hs,ef hs,Owns.of_eq ((((i).swap ((List.Perm.cons _ (List.Perm.swap _ _ _)).trans (List.Perm.swap _ _ _))).swap ((List.Perm.cons _ (List.Perm.swap _ _ _)).trans (List.Perm.swap _ _ _))).swap ((List.Perm.cons _ (List.Perm.swap _ _ _)).trans (List.Perm.swap _ _ _))) Et,h⟩
   ·clear h;rintro e st ⟨au,ar,aq,ax,aw,ay,Xk39,Rk39,rfl,rfl,i,h⟩
    rw [EY] at h
    exact go (tg (a:=([2,4],[4],()))) h (Ad (Ty.cs_eqs a0) hs) hN a3 a4 j i trivial trivial
theorem Fh (w0:World):∀ n:Nat,Ht w0 (Bm n)
 | 0=>fun _ _ _ _ _ _ h=>(nomatch h)
 | n+1=>LO w0 (Bm n) (Fh w0 n) n
theorem Jp (b:ByteArray) {c:Int} (hc:0≤c):(0:Nat)≤0∧(0:Int)≤(if c<(b.size:Int) then c else (b.size:Int))∧(if c<(b.size:Int) then c else (b.size:Int))≤(b.size:Int):=by
 refine ⟨Nat.le_refl _,?_,?_⟩<;>split<;>omega
theorem Jz (b:ByteArray) {c:Int} (hc:0≤c):((b.extract 0 ((if c<(b.size:Int) then c else (b.size:Int))).toNat).size:Int)≤c:=by
 rw [ByteArray.size_extract];split<;>omega
theorem Pm:∀ (l:List Vl) (w:Vl),DW (l++[w])=DW l+w.size
 | [],w=>by simp [DW]
 | x::l,w=>by rw [List.cons_append,DW,Pm l w,DW];omega
theorem Nn:∀ (l:List (ByteArray × Vl)) (w:ByteArray × Vl),EJ (l++[w])=EJ l+w.2.size
 | [],(a,w)=>by simp [EJ]
 | (a,x)::l,w=>by rw [List.cons_append,EJ,Nn l w,EJ];omega
theorem OJ:∀ (l:List Ty) (w:Ty),G9 (l++[w])=G9 l+w.size
 | [],w=>by simp [G9]
 | x::l,w=>by rw [List.cons_append,G9,OJ l w,G9];omega
theorem Nq:∀ (l:List TF) (w:TF),EM (l++[w])=EM l+w.2.2.2.1.size
 | [],(a,b,c,w,d)=>by simp [EM]
 | (a,b,c,x,d)::l,w=>by rw [List.cons_append,EM,Nq l w,EM];omega
theorem Dv {α:Type} {p:α→Prop} {l:List α} {x:α} (h:∀ y∈l,p y) (hx:p x):∀ y∈l++[x],p y:=by
 intro y hy
 rcases List.mem_append.1 hy with hy | hy
 ·exact h y hy
 ·rw [List.mem_singleton.1 hy];exact hx
theorem C9 {α:Type} (l:List α) (x:α):(l++[x]).length=l.length+1:=by simp
def szV:Nat→Nat
 | 0=>0
 | d+1=>1+12*szV d
theorem Zaq (rec:Vl→Int→Option Vl) (n:Nat) (v:Vl) (a:Int) (K:Nat) (hI:Bj (a-1)) (hr:1<a→∀ x,∃ w,rec x (a-1)=some w∧w.size≤K∧w.ok) (l:List Vl) (hl:DW l≤6*K) (ho:∀ x∈l,x.ok) :
  ∀ (m k i:Nat) (f:List (ByteArray × Vl)),i+k=6→k<m→f.length=i→EJ f≤i*K→(∀ p∈f,p.1.size≤1048576∧p.2.ok)→∃ w,B8 rec n v a m l f (i:Int)=some w∧w.size≤1+12*K∧w.ok
 | 0,k,i,f,_,h,_,_,_=>absurd h (Nat.not_lt_zero _)
 | m+1,k,i,f,hi,hm,hf,hs,hp=>by
  rw [B8]
  by_cases c:(((decide ((i:Int)<(v.fields.length:Int)))&&(decide ((i:Int)<6)))&&(decide (1<a)))=true
  ·rw [Ah c]
   simp only [Bool.and_eq_true,decide_eq_true_eq] at c
   obtain ⟨⟨r,s⟩,d⟩:=c
   have b:i<v.fields.length:=by omega
   obtain ⟨w,e,o,g⟩:=hr d v.fields[i].2
   obtain ⟨k,rfl⟩:∃ q,k=q+1:=⟨k-1,by omega⟩
   rw [AO b,Ae,Ah (Jp _ (by decide)),Ah hI,e,Ae,Ab,Ah (AW (by omega))]
   have j:=Jz v.fields[i].1 (c:=40) (by decide)
   exact Zaq rec n v a K hI hr l hl ho m k (i+1) _ (by omega) (by omega) (by rw [C9];omega) (by rw [Nn,Nat.add_mul];simp only;omega) (Dv hp ⟨by simp only;omega,g⟩)
  ·rw [Ai c,En]
   have j:=Jz v.text (c:=40) (by decide)
   have:i*K≤6*K:=Nat.mul_le_mul_right _ (by omega)
   refine ⟨_,rfl,?_,(Vl.ok_eq _).2 ⟨?_,ho,hp⟩⟩
   ·rw [Vl.size_eq];simp only [Vl.list,Vl.fields];omega
   ·show (v.text.extract 0 _).size≤1048576;omega
theorem VV (rec:Vl→Int→Option Vl) (n:Nat) (hn:8≤n) (v:Vl) (a:Int) (K:Nat) (hI:Bj (a-1)) (hr:1<a→∀ x,∃ w,rec x (a-1)=some w∧w.size≤K∧w.ok) :
  ∀ (m k i:Nat) (l:List Vl),i+k=6→k<m→l.length=i→DW l≤i*K→(∀ p∈l,p.ok)→∃ w,Cb rec n v a m l (i:Int)=some w∧w.size≤1+12*K∧w.ok
 | 0,k,i,f,_,h,_,_,_=>absurd h (Nat.not_lt_zero _)
 | m+1,k,i,f,hi,hm,hf,hs,hp=>by
  rw [Cb]
  by_cases c:(((decide ((i:Int)<(v.list.length:Int)))&&(decide ((i:Int)<6)))&&(decide (1<a)))=true
  ·rw [Ah c]
   simp only [Bool.and_eq_true,decide_eq_true_eq] at c
   obtain ⟨⟨o,r⟩,d⟩:=c
   have b:i<v.list.length:=by omega
   obtain ⟨w,e,j,g⟩:=hr d v.list[i]
   obtain ⟨k,rfl⟩:∃ q,k=q+1:=⟨k-1,by omega⟩
   rw [AO b,Ae,Ah hI,e,Ae,Ab,Ah (AW (by omega))]
   exact VV rec n hn v a K hI hr m k (i+1) _ (by omega) (by omega) (by rw [C9];omega) (by rw [Pm,Nat.add_mul];omega) (Dv hp g)
  ·rw [Ai c,ER]
   have:i*K≤6*K:=Nat.mul_le_mul_right _ (by omega)
   exact Zaq rec n v a K hI hr f (by omega) hp n 6 0 [] (by omega) (by omega) rfl (by simp [EJ]) (by simp)
theorem Gl:∀ (d n:Nat) (v:Vl),d≤50→d+9≤n→∃ w,Az n v ((d+1:Nat):Int)=some w∧w.size≤szV (d+1)∧w.ok
 | 0,n,v,h1,h2=>by
  obtain ⟨n,rfl⟩:∃ q,n=q+1:=⟨n-1,by omega⟩
  rw [Az,D6,Ah (Jp _ (by decide)),szV]
  exact VV (Az n) n (by omega) v _ 0 (by unfold Bj;omega) (fun c x=>by omega) n 6 0 [] (by omega) (by omega) rfl (by simp [DW]) (by simp)
 | d+1,n,v,h1,h2=>by
  obtain ⟨n,rfl⟩:∃ q,n=q+1:=⟨n-1,by omega⟩
  rw [Az,D6,Ah (Jp _ (by decide)),szV]
  exact VV (Az n) n (by omega) v _ (szV (d+1)) (by unfold Bj;omega) (fun c x=>by
   rw [show (((d+1+1:Nat):Int)-1)=((d+1:Nat):Int) from by omega]
   exact Gl d n x (by omega) (by omega)) n 6 0 [] (by omega) (by omega) rfl (by simp [DW]) (by simp)
def Ex.fits:Nat→Ex→Prop
 | 0,_=>False
 | d+1,e=>e.text.size≤60∧(∀ v∈e.value,v.size≤13∧v.ok)∧e.args.length≤4∧(∀ x∈e.args,Ex.fits d x)∧e.value.length≤2
theorem Zas (rec:Ex→Int→Option Ex) (n:Nat) (v:Ex) (a:Int) (d:Nat) (hI:Bj (a-1)) (hr:1<a→∀ x,∃ w,rec x (a-1)=some w∧w.fits d) (l:List Vl) (ho:∀ x∈l,x.size≤13∧x.ok) (hl2:l.length≤2) :
  ∀ (m k i:Nat) (f:List Ex),i+k=4→k<m→f.length=i→(∀ p∈f,p.fits d)→∃ w,Ci rec n v a m l f (i:Int)=some w∧w.fits (d+1)
 | 0,k,i,f,_,h,_,_=>absurd h (Nat.not_lt_zero _)
 | m+1,k,i,f,hi,hm,hf,hp=>by
  rw [Ci]
  by_cases c:(((decide ((i:Int)<(v.args.length:Int)))&&(decide ((i:Int)<4)))&&(decide (1<a)))=true
  ·rw [Ah c]
   simp only [Bool.and_eq_true,decide_eq_true_eq] at c
   obtain ⟨⟨r,s⟩,g⟩:=c
   have b:i<v.args.length:=by omega
   obtain ⟨w,e,j⟩:=hr g v.args[i]
   obtain ⟨k,rfl⟩:∃ q,k=q+1:=⟨k-1,by omega⟩
   rw [AO b,Ae,Ah hI,e,Ae,Ab,Ah (AW (by omega))]
   exact Zas rec n v a d hI hr l ho hl2 m k (i+1) _ (by omega) (by omega) (by rw [C9];omega) (Dv hp j)
  ·rw [Ai c,Ej]
   have o:=Jz v.text (c:=60) (by decide)
   refine ⟨_,rfl,?_,ho,?_,hp,hl2⟩
   ·show (v.text.extract 0 _).size≤60;omega
   ·simp only [Ex.args];omega
theorem ZbJ (rec:Ex→Int→Option Ex) (n:Nat) (hn:20≤n) (v:Ex) (a:Int) (d:Nat) (hI:Bj (a-1)) (hr:1<a→∀ x,∃ w,rec x (a-1)=some w∧w.fits d) :
  ∀ (m k i:Nat) (f:List Vl),i+k=2→k<m→f.length=i→(∀ p∈f,p.size≤13∧p.ok)→∃ w,CV rec n v a m f (i:Int)=some w∧w.fits (d+1)
 | 0,k,i,f,_,h,_,_=>absurd h (Nat.not_lt_zero _)
 | m+1,k,i,f,hi,hm,hf,hp=>by
  rw [CV]
  by_cases c:((decide ((i:Int)<(v.value.length:Int)))&&(decide ((i:Int)<2)))=true
  ·rw [Ah c]
   simp only [Bool.and_eq_true,decide_eq_true_eq] at c
   obtain ⟨l,o⟩:=c
   have b:i<v.value.length:=by omega
   obtain ⟨w,e,j,g⟩:=Gl 1 n v.value[i] (by omega) (by omega)
   have e:Az n v.value[i] 2=some w:=e
   obtain ⟨k,rfl⟩:∃ q,k=q+1:=⟨k-1,by omega⟩
   rw [AO b,Ae,e,Ae,Ab,Ah (AW (by omega))]
   exact ZbJ rec n hn v a d hI hr m k (i+1) _ (by omega) (by omega) (by rw [C9];omega) (Dv hp ⟨j,g⟩)
  ·rw [Ai c,EQ]
   exact Zas rec n v a d hI hr f hp (by omega) n 4 0 [] (by omega) (by omega) rfl (by simp)
theorem QA:∀ (d n:Nat) (v:Ex),d≤50→d+21≤n→∃ w,Bo n v ((d+1:Nat):Int)=some w∧w.fits (d+1)
 | 0,n,v,h1,h2=>by
  obtain ⟨n,rfl⟩:∃ q,n=q+1:=⟨n-1,by omega⟩
  rw [Bo,D4,Ah (Jp _ (by decide))]
  exact ZbJ (Bo n) n (by omega) v _ 0 (by unfold Bj;omega) (fun c x=>by omega) n 2 0 [] (by omega) (by omega) rfl (by simp)
 | d+1,n,v,h1,h2=>by
  obtain ⟨n,rfl⟩:∃ q,n=q+1:=⟨n-1,by omega⟩
  rw [Bo,D4,Ah (Jp _ (by decide))]
  exact ZbJ (Bo n) n (by omega) v _ (d+1) (by unfold Bj;omega) (fun c x=>by
   rw [show (((d+1+1:Nat):Int)-1)=((d+1:Nat):Int) from by omega]
   exact QA d n x (by omega) (by omega)) n 2 0 [] (by omega) (by omega) rfl (by simp)
def KB (m:List (ByteArray × Ex)):Prop:=m.length≤8∧∀ p∈m,p.1.size≤60∧p.2.fits 4
theorem S9 (n:Nat) (hn:30≤n) (a:List (ByteArray × Ex)):∀ (m k i:Nat) (f:List (ByteArray × Ex)),i+k=8→k<m→f.length=i→(∀ p∈f,p.1.size≤60∧p.2.fits 4)→∃ w,EK n a m (i:Int) f=some w∧KB w
 | 0,k,i,f,_,h,_,_=>absurd h (Nat.not_lt_zero _)
 | m+1,k,i,f,hi,hm,hf,hp=>by
  rw [EK]
  by_cases c:((decide ((i:Int)<(a.length:Int)))&&(decide ((i:Int)<8)))=true
  ·rw [Ah c]
   simp only [Bool.and_eq_true,decide_eq_true_eq] at c
   obtain ⟨j,l⟩:=c
   have b:i<a.length:=by omega
   obtain ⟨w,e,d⟩:=QA 3 n a[i].2 (by omega) (by omega)
   have e:Bo n a[i].2 4=some w:=e
   obtain ⟨k,rfl⟩:∃ q,k=q+1:=⟨k-1,by omega⟩
   have g:=Jz a[i].1 (c:=60) (by decide)
   rw [AO b,Ae,Ah (Jp _ (by decide)),e,Ae,Ab,Ah (AW (by omega))]
   exact S9 n hn a m k (i+1) _ (by omega) (by omega) (by rw [C9];omega) (Dv hp ⟨by simp only;omega,d⟩)
  ·rw [Ai c,GX]
   exact ⟨_,rfl,by omega,hp⟩
theorem OL (n:Nat) (hn:30≤n) (a:List (ByteArray × Ex)):∃ w,FI n a=some w∧KB w:=S9 n hn a n 8 0 [] (by omega) (by omega) rfl (by simp)
def szT:Nat→Nat
 | 0=>0
 | d+1=>1+8*szT d
def KN (K D:Nat) (t:Ty):Prop:=t.size≤K∧t.depth≤D∧t.ok
theorem Y1 (rec:Ty→Int→Option Ty) (n:Nat) (hn:20≤n) (ag:List ByteArray→List Ty→List TF→Int→Option Ty) (a z:Int) (p:TF) (ws:List ByteArray) (es:List Ty) (fs:List TF) :
  ∀ (m k i:Nat) (f:List Vl),i+k=2→k<m→f.length=i→(∀ v∈f,v.small)→∃ dl:List Vl,BX rec n ag a z p m ws es fs f (i:Int)=DI rec n ag a z p ws es fs dl∧dl.length≤2∧∀ v∈dl,v.small
 | 0,k,i,f,_,h,_,_=>absurd h (Nat.not_lt_zero _)
 | m+1,k,i,f,hi,hm,hf,hp=>by
  rw [BX]
  by_cases c:((decide ((i:Int)<(p.2.2.2.2.length:Int)))&&(decide ((i:Int)<2)))=true
  ·rw [Ah c]
   simp only [Bool.and_eq_true,decide_eq_true_eq] at c
   obtain ⟨l,o⟩:=c
   have b:i<p.2.2.2.2.length:=by omega
   obtain ⟨w,e,d,g⟩:=Gl 2 n p.2.2.2.2[i] (by omega) (by omega)
   have e:Az n p.2.2.2.2[i] 3=some w:=e
   have d:w.size≤157:=d
   have j:=w.depth_size
   obtain ⟨k,rfl⟩:∃ q,k=q+1:=⟨k-1,by omega⟩
   rw [AO b,Ae,e,Ae,Ab,Ah (AW (by omega))]
   exact Y1 rec n hn ag a z p ws es fs m k (i+1) _ (by omega) (by omega) (by rw [C9];omega) (Dv hp ⟨by omega,by omega,g⟩)
  ·rw [Ai c]
   exact ⟨_,rfl,by omega,hp⟩
theorem Zaf (rec:Ty→Int→Option Ty) (n:Nat) (hn:20≤n) (t:Ty) (a:Int) (K D:Nat) (hI:Bj (a-1)) (hr:1<a→∀ x,∃ w,rec x (a-1)=some w∧KN K D w)
  (ws:List ByteArray) (hw:ws.length≤6∧∀ w∈ws,w.size≤40) (es:List Ty) (he:G9 es≤2*K∧∀ w∈es,KN K D w) :
  ∀ (m k i:Nat) (f:List TF),i+k=6→k<m→f.length=i→EM f≤i*K→(∀ p∈f,p.2.1.size≤40∧KN K D p.2.2.2.1∧p.2.2.2.2.length≤2∧∀ v∈p.2.2.2.2,v.small)→∃ w,A9 rec n t a m ws es f (i:Int)=some w∧KN (1+8*K) (D+1) w
 | 0,k,i,f,_,h,_,_,_=>absurd h (Nat.not_lt_zero _)
 | m+1,k,i,f,hi,hm,hf,hs,hp=>by
  rw [A9]
  by_cases c:(((decide ((i:Int)<(t.fields.length:Int)))&&(decide ((i:Int)<6)))&&(decide (1<a)))=true
  ·rw [Ah c]
   simp only [Bool.and_eq_true,decide_eq_true_eq] at c
   obtain ⟨⟨F,G⟩,j⟩:=c
   have g:i<t.fields.length:=by omega
   obtain ⟨w,e,s,r,o⟩:=hr j t.fields[i].2.2.2.1
   obtain ⟨k,rfl⟩:∃ q,k=q+1:=⟨k-1,by omega⟩
   obtain ⟨dl,d,u,l⟩:=Y1 rec n hn (A9 rec n t a m) a i t.fields[i] ws es f n 2 0 [] (by omega) (by omega) rfl (by simp)
   have d:BX rec n (A9 rec n t a m) a i t.fields[i] n ws es f [] 0=_:=d
   have C:=Jz t.fields[i].2.1 (c:=40) (by decide)
   rw [AO g,Ae,d,DI,Ah (Jp _ (by decide)),Ah hI,e,Ae,Ab,E0,Ah (AW (by omega))]
   exact Zaf rec n hn t a K D hI hr ws hw es he m k (i+1) _ (by omega) (by omega) (by rw [C9];omega) (by rw [Nq,Nat.add_mul];simp only;omega) (Dv hp ⟨by simp only;omega,⟨s,r,o⟩,u,l⟩)
  ·rw [Ai c,EY]
   have:i*K≤6*K:=Nat.mul_le_mul_right _ (by omega)
   refine ⟨_,rfl,?_,?_,(Ty.ok_eq _).2 ⟨?_,fun x b=>?_,fun x b=>(he.2 x b).2.2,fun p b=>?_⟩⟩
   ·rw [Ty.size_eq];simp only [Ty.elem,Ty.fields];omega
   ·rw [Ty.depth_eq];simp only [Ty.elem,Ty.fields]
    have z:=(PM es D).2 fun x b=>(he.2 x b).2.1
    have E:=(Nw f D).2 fun x b=>(hp x b).2.1.2.1
    omega
   ·simp only [Ty.words];omega
   ·have:=hw.2 x b;omega
   ·obtain ⟨q1,q2,q3,y⟩:=hp p b
    exact ⟨by omega,q2.2.2,by omega,y⟩
theorem Y2 (rec:Ty→Int→Option Ty) (n:Nat) (hn:20≤n) (t:Ty) (a:Int) (K D:Nat) (hI:Bj (a-1)) (hr:1<a→∀ x,∃ w,rec x (a-1)=some w∧KN K D w)
  (ws:List ByteArray) (hw:ws.length≤6∧∀ w∈ws,w.size≤40) :
  ∀ (m k i:Nat) (f:List Ty),i+k=2→k<m→f.length=i→G9 f≤i*K→(∀ p∈f,KN K D p)→∃ w,CW rec n t a m ws f (i:Int)=some w∧KN (1+8*K) (D+1) w
 | 0,k,i,f,_,h,_,_,_=>absurd h (Nat.not_lt_zero _)
 | m+1,k,i,f,hi,hm,hf,hs,hp=>by
  rw [CW]
  by_cases c:(((decide ((i:Int)<(t.elem.length:Int)))&&(decide ((i:Int)<2)))&&(decide (1<a)))=true
  ·rw [Ah c]
   simp only [Bool.and_eq_true,decide_eq_true_eq] at c
   obtain ⟨⟨l,o⟩,g⟩:=c
   have b:i<t.elem.length:=by omega
   obtain ⟨w,e,d⟩:=hr g t.elem[i]
   have j:=d.1
   obtain ⟨k,rfl⟩:∃ q,k=q+1:=⟨k-1,by omega⟩
   rw [AO b,Ae,Ah hI,e,Ae,Ab,Ah (AW (by omega))]
   exact Y2 rec n hn t a K D hI hr ws hw m k (i+1) _ (by omega) (by omega) (by rw [C9];omega) (by rw [OJ,Nat.add_mul];omega) (Dv hp d)
  ·rw [Ai c,EU]
   have:i*K≤2*K:=Nat.mul_le_mul_right _ (by omega)
   exact Zaf rec n hn t a K D hI hr ws hw f ⟨by omega,hp⟩ n 6 0 [] (by omega) (by omega) rfl (by simp [EM]) (by simp)
theorem Za7 (rec:Ty→Int→Option Ty) (n:Nat) (hn:20≤n) (t:Ty) (a:Int) (K D:Nat) (hI:Bj (a-1)) (hr:1<a→∀ x,∃ w,rec x (a-1)=some w∧KN K D w) :
  ∀ (m k i:Nat) (f:List ByteArray),i+k=6→k<m→f.length=i→(∀ p∈f,p.size≤40)→∃ w,Dc rec n t a m f (i:Int)=some w∧KN (1+8*K) (D+1) w
 | 0,k,i,f,_,h,_,_=>absurd h (Nat.not_lt_zero _)
 | m+1,k,i,f,hi,hm,hf,hp=>by
  rw [Dc]
  by_cases c:((decide ((i:Int)<(t.words.length:Int)))&&(decide ((i:Int)<6)))=true
  ·rw [Ah c]
   simp only [Bool.and_eq_true,decide_eq_true_eq] at c
   obtain ⟨d,g⟩:=c
   have b:i<t.words.length:=by omega
   obtain ⟨k,rfl⟩:∃ q,k=q+1:=⟨k-1,by omega⟩
   have e:=Jz t.words[i] (c:=40) (by decide)
   rw [AO b,Ae,Ah (Jp _ (by decide)),Ab,Ah (AW (by omega))]
   exact Za7 rec n hn t a K D hI hr m k (i+1) _ (by omega) (by omega) (by rw [C9];omega) (Dv hp (by omega))
  ·rw [Ai c,Fe]
   exact Y2 rec n hn t a K D hI hr f ⟨by omega,hp⟩ n 2 0 [] (by omega) (by omega) rfl (by simp [G9]) (by simp)
theorem QB:∀ (d n:Nat) (v:Ty),d≤50→d+21≤n→∃ w,Bm n v ((d+1:Nat):Int)=some w∧KN (szT (d+1)) (d+1) w
 | 0,n,v,h1,h2=>by
  obtain ⟨n,rfl⟩:∃ q,n=q+1:=⟨n-1,by omega⟩
  rw [Bm,EH,szT]
  exact Za7 (Bm n) n (by omega) v _ 0 0 (by unfold Bj;omega) (fun c x=>by omega) n 6 0 [] (by omega) (by omega) rfl (by simp)
 | d+1,n,v,h1,h2=>by
  obtain ⟨n,rfl⟩:∃ q,n=q+1:=⟨n-1,by omega⟩
  rw [Bm,EH,szT]
  exact Za7 (Bm n) n (by omega) v _ (szT (d+1)) (d+1) (by unfold Bj;omega) (fun c x=>by
   rw [show (((d+1+1:Nat):Int)-1)=((d+1:Nat):Int) from by omega]
   exact QB d n x (by omega) (by omega)) n 6 0 [] (by omega) (by omega) rfl (by simp)
def BV (n:Nat) (b:Msg):Option Msg :=
 if 0≤0∧0≤(if 6<(b.stamp.2.length:Int) then 6 else (b.stamp.2.length:Int))∧(if 6<(b.stamp.2.length:Int) then 6 else (b.stamp.2.length:Int))≤(b.stamp.2.length:Int) then
  if (0+(b.stamp.2.take ((if 6<(b.stamp.2.length:Int) then 6 else (b.stamp.2.length:Int))).toNat).length)*8≤140737488355328∧0+(b.stamp.2.take ((if 6<(b.stamp.2.length:Int) then 6 else (b.stamp.2.length:Int))).toNat).length≤4611686018427387904 then
   if 0≤0∧0≤(if 6<(b.origins.length:Int) then 6 else (b.origins.length:Int))∧(if 6<(b.origins.length:Int) then 6 else (b.origins.length:Int))≤(b.origins.length:Int) then
    if (0+(b.origins.take ((if 6<(b.origins.length:Int) then 6 else (b.origins.length:Int))).toNat).length)*8≤140737488355328∧0+(b.origins.take ((if 6<(b.origins.length:Int) then 6 else (b.origins.length:Int))).toNat).length≤4611686018427387904 then
     (Az n b.body 5).bind fun h =>
     some (Msg.mk ((b.stamp.1,b.stamp.2.take ((if 6<(b.stamp.2.length:Int) then 6 else (b.stamp.2.length:Int))).toNat)) ((if 1099511627776<(if b.mass<0 then 0 else b.mass) then 1099511627776 else (if b.mass<0 then 0 else b.mass))) (b.origins.take ((if 6<(b.origins.length:Int) then 6 else (b.origins.length:Int))).toNat) h)
    else none
   else none
  else none
 else none
theorem GP (w0:World) (n:Nat) (B:Aq) (Rw:Au) (L:Av) (a0:Msg) (r:Msg) (h:BV n a0=some r) :
  ACalls Tryz.prog w0 22 [.agg ((Ak a0.stamp.1::([.list (a0.stamp.2.map BG) .none]))++(Ak a0.mass::(.list (a0.origins.map BG) .none::(a0.body.cs))))] ⟨B,Rw,L⟩ fun x st=>x = .agg ((Ak r.stamp.1::([.list (r.stamp.2.map BG) .none]))++(Ak r.mass::(.list (r.origins.map BG) .none::(r.body.cs))))∧st=⟨B,Rw,L⟩:=by
 rw [BV] at h
 refine hd [.cell 2 51] Tryz.func22 Tryz.ntmps22 fun M0 W0 y w v k C e hs=>?_
 simp only [AL]
 refine rg [1,2] hs ?_
 obtain ⟨u,h⟩:=An h
 obtain ⟨l,h⟩:=An h
 have e:=e.full 1 0
 obtain ⟨z,o,e,c⟩:=e.append (P:=Tryz.prog) VX (by rw [RJ];rfl) (by decide) ((a0.stamp.2.take ((if 6<(a0.stamp.2.length:Int) then 6 else (a0.stamp.2.length:Int))).toNat).length) l.1 l.2
 simp only [Nat.zero_add] at e
 replace c:=fun (ys:List AV) B L j=>c ([]) ys B L j Et
 replace c:=fun B L j=>c ((a0.stamp.2.take ((if 6<(a0.stamp.2.length:Int) then 6 else (a0.stamp.2.length:Int))).toNat).map BG) B L j Et (by simp +decide only [go_sem,Nat.reduceAdd])
 try simp only [List.mem_singleton,List.mem_cons,List.not_mem_nil,or_false,forall_eq_or_imp,forall_eq,List.map_append,List.map_cons,List.map_nil,Hv,Hh,Hy,G4,Hm,G5,FR,FX,Hw,D3,D9,Gf,F2,FV,Hg,FQ,He] at c
 have hs:=Ad c hs
 have hs:=Ad (Vl.cs_eqs a0.body) hs
 refine rg [1,2] hs ?_
 obtain ⟨p,h⟩:=An h
 obtain ⟨f,h⟩:=An h
 have e:=e.full 1 0
 obtain ⟨t,m,e,b⟩:=e.append (P:=Tryz.prog) VX (by rw [RJ];rfl) (by decide) ((a0.origins.take ((if 6<(a0.origins.length:Int) then 6 else (a0.origins.length:Int))).toNat).length) f.1 f.2
 simp only [Nat.zero_add] at e
 replace b:=fun (ys:List AV) B L j=>b ([]) ys B L j Et
 replace b:=fun B L j=>b ((a0.origins.take ((if 6<(a0.origins.length:Int) then 6 else (a0.origins.length:Int))).toNat).map BG) B L j Et (by simp +decide only [go_sem,Nat.reduceAdd])
 try simp only [List.mem_singleton,List.mem_cons,List.not_mem_nil,or_false,forall_eq_or_imp,forall_eq,List.map_append,List.map_cons,List.map_nil,Hv,Hh,Hy,G4,Hm,G5,FR,FX,Hw,D3,D9,Gf,F2,FV,Hg,FQ,He] at b
 have hs:=Ad b hs
 refine rg [1,2] hs ?_
 apply Am;intro K16 g
 obtain ⟨d,i,h⟩:=bind_some h
 apply Jk NZ [8,10] [1,4] [1,2] kr (fun s=>∃ (X:Aq) (rows:Au) (q:List AV),s=⟨B++([q,[Ak 0,.list ([]) .full,Ak 0,.list ([]) .full,Ak 0,Ak 0,Ak 0,.val (.string (⟨#[]⟩:ByteArray)),.list ([]) .full,.list ([]) .full]]++X),rows,L⟩) 3 (B.length+2)
 ·simp +decide only [go_sem,Nat.reduceAdd]
 ·refine ⟨2,?_⟩
  rw [Ao];simp +decide only [go_sem,Nat.reduceAdd,Bd,c,Vl.cs_eqs a0.body,b,Vl.cs_eqs d]
  have hs:=Ad (Vl.cs_eqs d) hs
  (repeat' apply Ad)<;>first | refine Ax _ (BL w0 n _ _ _ a0.body 5 _ i) (hv hs) ?_ | exact cl
  rw [Ao];simp +decide only [go_sem,Nat.reduceAdd,c,Vl.cs_eqs a0.body,b,Vl.cs_eqs d]
  (repeat' apply Ad)<;>first | rfl | exact cl
 ·rintro s ⟨X,rows,q,rfl⟩
  refine ⟨2,?_⟩
  rw [Ao];simp +decide only [go_sem,Nat.reduceAdd,Bd,List.append_eq,List.cons_append,List.nil_append,c,Vl.cs_eqs a0.body,b,Vl.cs_eqs d]
  have hs:=Ad (Vl.cs_eqs d) hs
  (repeat' apply Ad)<;>first | refine Ax _ (BL w0 n _ _ _ a0.body 5 _ i) (hv hs) ?_ | exact cl
  rw [Ao];simp +decide only [go_sem,Nat.reduceAdd,c,Vl.cs_eqs a0.body,b,Vl.cs_eqs d]
  (repeat' apply Ad)<;>first | rfl | ((repeat (first | exact .nil | refine .cons (ef hs) ?_));done) | exact cl
 ·exact gd (tg (a:=(8,10,[1,2]))) (Ad (Vl.cs_eqs d) (Ad b (Ad (Vl.cs_eqs a0.body) (Ad c hs))))
 simp +decide only [go_sem,Nat.reduceAdd,c,Vl.cs_eqs a0.body,b,Vl.cs_eqs d]
 (repeat' apply Ad)<;>first | refine g _ _ ?_ | exact cl
 clear g
 have hs:=Ad (Vl.cs_eqs d) hs
 refine rg [2] hs ?_
 exact rt h hs k e
def DY (n:Nat) (b:(List Slt)→Int→Option Stt) (h:Int) (q:List Slt):Option Stt :=
 if Bj (h+1) then
  b q (h+1)
 else none
def Eo (n:Nat) (h:Stt) (b:List Slt):Option Stt :=
 some (Stt.mk h.number h.time b)
def DU (n:Nat) (h:(List Slt)→Int→Option Stt) (q:Int) (y:Slt) (y17:Vl) (b:List Slt) (b3_k35_8:List Msg) (b3_k35_9:List Vl):Option Stt :=
 if (b.length+1)*152≤140737488355328∧b.length+1≤4611686018427387904 then
  DY n h q (b++([Slt.mk y17 y.number y.time b3_k35_8 b3_k35_9]))
 else none
def BW (n:Nat) (h:(List Slt)→Int→Option Stt) (y:Int) (x15:Slt) (y17:Vl):Nat→(List Slt)→Int→(List Msg)→(List Vl)→Option Stt
 | 0,_,_,_,_=>none
 | m+1,q,b,b3_l38_8,b3_l38_9 =>
  if (decide (b<(x15.values.length:Int)))&&(decide (b<4)) then
   (Gg x15.values b).bind fun x43 =>
   (Az n x43 4).bind fun y44 =>
   if (b3_l38_9.length+1)*88≤140737488355328∧b3_l38_9.length+1≤4611686018427387904 then
    if Bj (b+1) then
     (BW n h y x15 y17 m) q (b+1) b3_l38_8 (b3_l38_9++([y44]))
    else none
   else none
  else
   DU n h y x15 y17 q b3_l38_8 b3_l38_9
def D2 (n:Nat) (b:(List Slt)→Int→Option Stt) (q:Int) (y:Slt) (y17:Vl) (h:List Slt) (b3_k19_8:List Msg):Option Stt :=
 BW n b q y y17 n h 0 b3_k19_8 ([])
def BZ (n:Nat) (h:(List Slt)→Int→Option Stt) (y:Int) (x15:Slt) (y17:Vl):Nat→(List Slt)→Int→(List Msg)→Option Stt
 | 0,_,_,_=>none
 | m+1,q,b,b3_l22_8 =>
  if (decide (b<(x15.items.length:Int)))&&(decide (b<4)) then
   (Gg x15.items b).bind fun x27 =>
   (BV n x27).bind fun y28 =>
   if (b3_l22_8.length+1)*152≤140737488355328∧b3_l22_8.length+1≤4611686018427387904 then
    if Bj (b+1) then
     (BZ n h y x15 y17 m) q (b+1) (b3_l22_8++([y28]))
    else none
   else none
  else
   D2 n h y x15 y17 q b3_l22_8
def A4 (n:Nat) (y:Stt):Nat→(List Slt)→Int→Option Stt
 | 0,_,_=>none
 | m+1,h,b =>
  if (decide (b<(y.slots.length:Int)))&&(decide (b<6)) then
   (Gg y.slots b).bind fun q =>
   (Az n q.key 3).bind fun y17 =>
   BZ n (A4 n y m) b q y17 n h 0 ([])
  else
   Eo n y h
def EX (n:Nat) (b:Stt):Option Stt :=
 A4 n b n ([]) 0
theorem LD (w0:World) (n:Nat) (B:Aq) (Rw:Au) (L:Av) (a0:Stt) (r:Stt) (h:EX n a0=some r) :
  ACalls Tryz.prog w0 8 [.agg (Ak a0.number::(Ak a0.time::([.list (a0.slots.map BF) .none])))] ⟨B,Rw,L⟩ fun x st=>x = .agg (Ak r.number::(Ak r.time::([.list (r.slots.map BF) .none])))∧st=⟨B,Rw,L⟩:=by
 rw [EX] at h
 refine hd [.cell 2 37] Tryz.func8 Tryz.ntmps8 fun M0 W0 hN ai aj F hu u hs=>?_
 simp only [AL]
 refine rg [1,2] hs ?_
 refine rg [1,2,3] hs ?_
 refine AZ (fun e st=>∃ (ag:List Slt) (ah:Ev.Own),Ck e st B Rw L [(1,true,.box B.length 0),(2,true,.box (B.length+1) 0),(3,true,.list (ag.map BF) ah)] [Ak a0.number::(Ak a0.time::([.list (a0.slots.map BF) .none])),[Ak 0,Ak 0,.list ([]) .full]] [(10,ag.length,ah)] (Eo n a0 ag=some r)) ?_ ?_
 ·intro K5 bl
  refine rg [1,2,3,4] hs ?_
  apply As
  refine AN (fun m e st=>∃ (Y:List Slt) (c:Int) (U:Ev.Own),Ck e st B Rw L [(1,true,.box B.length 0),(2,true,.box (B.length+1) 0),(3,true,.list (Y.map BF) U),(4,true,Ak c)] [Ak a0.number::(Ak a0.time::([.list (a0.slots.map BF) .none])),[Ak 0,Ak 0,.list ([]) .full]] [(10,Y.length,U)] (A4 n a0 m Y c=some r)) n ⟨([]),0,.full,([]),Rw,ef hs,ef hs,Owns.of_eq ((u).full 10 0) Et,h⟩ ?_
  rintro ml7 e st ⟨Y,c,U,Xl7,Rl7,rfl,rfl,u,h⟩ Ul7 Vl7
  cases ml7 with
  | zero=>cases h
  | succ ml7 =>
  rw [A4] at h
  have hU:=u.unders
  simp only [List.mem_cons,List.not_mem_nil,or_false,forall_eq_or_imp,forall_eq] at hU
  refine td hN ai aj F u ?_
  apply Am;intro K8 bb
  refine rg [1,2,3,4,17] hs ?_
  refine Gw h hs ?_ ?_<;>intro hs h
  rotate_left
  ·have K:=hs.1
   refine sx [1,2,3] hs bl ?_
   exact ⟨Y,U,([]),Rl7,ef hs,ef hs,Owns.of_eq (u) Et,h⟩
  have K:=hs.1
  refine sk [1,2,3,4] hs bb ?_
  clear bb
  refine AZ (fun e st=>∃ (O:List Slt) (Q:Ev.Own),Ck e st B Rw L [(1,true,.box B.length 0),(2,true,.box (B.length+1) 0),(3,true,.list (O.map BF) Q),(4,true,Ak c)] [Ak a0.number::(Ak a0.time::([.list (a0.slots.map BF) .none])),[Ak 0,Ak 0,.list ([]) .full]] [(10,O.length,Q)] (DY n (A4 n a0 ml7) c O=some r)) ?_ ?_
  ·intro K13 bc
   apply As
   obtain ⟨b,a6,h⟩:=bind_some h
   obtain ⟨bj,bh,a4⟩:=E8 a6
   have t:=E6 (f:=BF) a4
   have hs:=Ad t hs
   refine rg [1,2,3,4,5] hs ?_
   apply Am;intro K16 ay
   obtain ⟨a,ba,h⟩:=bind_some h
   apply Xl NZ [8,9] [1,2,3,4,5,6] kr (fun s=>∃ (X:Aq) (rows:Au),s=⟨B++([Ak a0.number::(Ak a0.time::([.list (a0.slots.map BF) .none])),[Ak 0,Ak 0,.list ([]) .full],(b.key.cs)++(Ak b.number::(Ak b.time::(.list (b.items.map B7) .none::([.list (b.values.map C4) .none]))))]++X),rows,L⟩) 3 (B.length+3)
   ·simp +decide only [go_sem,Nat.reduceAdd]
   ·rintro s ⟨X,rows,rfl⟩
    refine ⟨2,?_⟩
    rw [Ao];simp +decide only [go_sem,Nat.reduceAdd,Bd,K,t,Vl.cs_eqs a]
    have hs:=Ad (Vl.cs_eqs a) hs
    (repeat' apply Ad)<;>first | refine Ax _ (BL w0 n _ _ _ b.key 3 _ ba) (hv hs) ?_ | exact cl
    rw [Ao];simp +decide only [go_sem,Nat.reduceAdd,K,t,Vl.cs_eqs a]
    (repeat' apply Ad)<;>first | rfl | exact cl
   ·refine Good.mk [8] kr ⟨[],_,by first | rfl | simp only [List.append_nil,List.nil_append]⟩ ?_ ?_
    ·intro h;exact absurd h (by decide)
    ·intro i hi;simp only [List.mem_cons,List.not_mem_nil,or_false] at hi
     subst hi
     ·apply G1 rfl rfl ev
      ·simp +decide only [go_sem,Nat.reduceAdd,Ee,K,t,Vl.cs_eqs a]
       (repeat' apply Ad)<;>first | rfl | exact cl
      ·simp +decide only [go_sem,Nat.reduceAdd,K,t,Vl.cs_eqs a]
       refine Good.mk [9] kr ⟨_,_,by first | rfl | simp only [List.append_nil,List.nil_append]⟩ ?_ ?_
       ·intro h;exact absurd h (by decide)
       ·intro i hi;simp only [List.mem_cons,List.not_mem_nil,or_false] at hi
        subst hi
        ·apply G1 rfl rfl ev
         ·simp +decide only [go_sem,Nat.reduceAdd,Ee,K,t,Vl.cs_eqs a]
          (repeat' apply Ad)<;>first | rfl | exact cl
         ·simp +decide only [go_sem,Nat.reduceAdd,K,t,Vl.cs_eqs a]
          refine Good.mk [] kr ⟨_,_,by first | rfl | simp only [List.append_nil,List.nil_append]⟩ ?_ ?_
          ·intro _;apply J5 [1,2,3,4,5,6];first | (simp +decide only [go_sem,Nat.reduceAdd,K,t,Vl.cs_eqs a];done) | (simp +decide only [go_sem,Nat.reduceAdd,K,t,Vl.cs_eqs a];rfl)
          ·intro i hi;cases hi
   simp +decide only [go_sem,Nat.reduceAdd,K,t,Vl.cs_eqs a]
   (repeat' apply Ad)<;>first | refine ay _ _ ?_ | exact cl
   clear ay
   refine AZ (fun e st=>∃ (V:List Slt) (v:List Msg) (N:Ev.Own) (D:Ev.Own),Ck e st B Rw L [(1,true,.box B.length 0),(2,true,.box (B.length+1) 0),(3,true,.list (V.map BF) N),(4,true,Ak c),(5,true,.box (B.length+2) 0),(6,true,.box (B.length+3) 0)] [Ak a0.number::(Ak a0.time::([.list (a0.slots.map BF) .none])),[Ak 0,Ak 0,.list ([]) .full],(b.key.cs)++(Ak b.number::(Ak b.time::(.list (b.items.map B7) .none::([.list (b.values.map C4) .none])))),[Ak a.kind,Ak a.int,Ak a.scale,.val (.string a.text),.list (a.list.map C4) .none,.list (a.fields.map ID) .none,Ak b.number,Ak b.time,.list (v.map B7) D,.list ([]) .full]] [(10,V.length,N),(10,v.length,D)] (D2 n (A4 n a0 ml7) c b a V v=some r)) ?_ ?_
   ·intro K20 a9
    have hs:=Ad (Vl.cs_eqs a) hs
    refine rg [1,2,3,4,5,6,7] hs ?_
    apply As
    refine AN (fun m e st=>∃ (J:List Slt) (ae:Int) (d:List Msg) (E:Ev.Own) (w:Ev.Own),Ck e st B Rw L [(1,true,.box B.length 0),(2,true,.box (B.length+1) 0),(3,true,.list (J.map BF) E),(4,true,Ak c),(5,true,.box (B.length+2) 0),(6,true,.box (B.length+3) 0),(7,true,Ak ae)] [Ak a0.number::(Ak a0.time::([.list (a0.slots.map BF) .none])),[Ak 0,Ak 0,.list ([]) .full],(b.key.cs)++(Ak b.number::(Ak b.time::(.list (b.items.map B7) .none::([.list (b.values.map C4) .none])))),[Ak a.kind,Ak a.int,Ak a.scale,.val (.string a.text),.list (a.list.map C4) .none,.list (a.fields.map ID) .none,Ak b.number,Ak b.time,.list (d.map B7) w,.list ([]) .full]] [(10,J.length,E),(10,d.length,w)] (BZ n (A4 n a0 ml7) c b a m J ae d=some r)) n ⟨Y,0,([]),U,.full,([]),Rl7,ef hs,ef hs,Owns.of_eq (((u).full 10 0).swap (List.Perm.swap _ _ _)) Et,h⟩ ?_
    rintro ml22 e st ⟨J,ae,d,E,w,Xl22,Rl22,rfl,rfl,u,h⟩ Ul22 Vl22
    cases ml22 with
    | zero=>cases h
    | succ ml22 =>
    rw [BZ] at h
    have hU:=u.unders
    simp only [List.mem_cons,List.not_mem_nil,or_false,forall_eq_or_imp,forall_eq] at hU
    obtain ⟨a3,a2⟩:=hU
    refine td hN ai aj F u ?_
    apply Am;intro K23 au
    refine rg [1,2,3,4,5,6,7,41] hs ?_
    refine Gw h hs ?_ ?_<;>intro hs h
    rotate_left
    ·refine sx [1,2,3,4,5,6] hs a9 ?_
     exact ⟨J,d,E,w,([]),Rl22,ef hs,ef hs,Owns.of_eq (((u).swap (List.Perm.swap _ _ _)).swap (List.Perm.swap _ _ _)) Et,h⟩
    refine sk [1,2,3,4,5,6,7] hs au ?_
    clear au
    apply Am;intro K26 ap
    apply As
    obtain ⟨bm,bi,be,az,h⟩:=ix B7 h
    obtain ⟨bf,bd,h⟩:=bind_some h
    obtain ⟨ax,h⟩:=An h
    have u:=u.swap (List.Perm.swap _ _ _)
    obtain ⟨bp,am,u,Z⟩:=u.append (P:=Tryz.prog) ZaW (by rw [Ta];rfl) (by decide) 1 ax.1 ax.2
    replace Z:=fun (ys:List AV) B L o2=>Z (d.map B7) ys B L o2 Et
    replace Z:=fun (y:AV) B L o2=>Z [y] B L o2 Et ev
    try simp only [List.mem_singleton,List.mem_cons,List.not_mem_nil,or_false,forall_eq_or_imp,forall_eq,List.map_append,List.map_cons,List.map_nil,Hv,Hh,Hy,G4,Hm,G5,FR,FX,Hw,D3,D9,Gf,F2,FV,Hg,FQ,He] at Z
    have hs:=Ad az hs
    have hs:=Ad Z hs
    refine dk 9 2 1 [1,2,3,4,5,6,7] hs NZ ?_
    refine Ax _ (GP w0 n _ _ _ bm _ bd) (hv hs) ?_
    refine dn hs ap ?_
    clear ap
    obtain ⟨bs,h⟩:=An h
    refine rl [1,2,3,4,5,6,7] hs (fun e s=>Vl22 ml22 e s (Nat.lt_succ_self _)) ?_
    exact ⟨J,(ae+1),(d++([bf])),E,bp,([]),am,ef hs,ef hs,Owns.of_eq ((u).swap (List.Perm.swap _ _ _)) Et,h⟩
   ·clear h;rintro e st ⟨V,v,N,D,Xk19,Rk19,rfl,rfl,u,h⟩
    rw [D2] at h
    have hU:=u.unders
    simp only [List.mem_cons,List.not_mem_nil,or_false,forall_eq_or_imp,forall_eq] at hU
    obtain ⟨a3,a2⟩:=hU
    refine td hN ai aj F u ?_
    refine AZ (fun e st=>∃ (z:List Slt) (g:List Msg) (k:List Vl) (af:Ev.Own) (q:Ev.Own) (o:Ev.Own),Ck e st B Rw L [(1,true,.box B.length 0),(2,true,.box (B.length+1) 0),(3,true,.list (z.map BF) af),(4,true,Ak c),(6,true,.box (B.length+3) 0)] [Ak a0.number::(Ak a0.time::([.list (a0.slots.map BF) .none])),[Ak 0,Ak 0,.list ([]) .full],(b.key.cs)++(Ak b.number::(Ak b.time::(.list (b.items.map B7) .none::([.list (b.values.map C4) .none])))),[Ak a.kind,Ak a.int,Ak a.scale,.val (.string a.text),.list (a.list.map C4) .none,.list (a.fields.map ID) .none,Ak b.number,Ak b.time,.list (g.map B7) q,.list (k.map C4) o]] [(10,z.length,af),(10,g.length,q),(6,k.length,o)] (DU n (A4 n a0 ml7) c b a z g k=some r)) ?_ ?_
    ·intro K36 a8
     have hs:=Ad (Vl.cs_eqs a) hs
     refine rg [1,2,3,4,5,6,8] hs ?_
     apply As
     refine AN (fun m e st=>∃ (H:List Slt) (ad:Int) (l:List Msg) (j:List Vl) (G:Ev.Own) (p:Ev.Own) (C:Ev.Own),Ck e st B Rw L [(1,true,.box B.length 0),(2,true,.box (B.length+1) 0),(3,true,.list (H.map BF) G),(4,true,Ak c),(5,true,.box (B.length+2) 0),(6,true,.box (B.length+3) 0),(8,true,Ak ad)] [Ak a0.number::(Ak a0.time::([.list (a0.slots.map BF) .none])),[Ak 0,Ak 0,.list ([]) .full],(b.key.cs)++(Ak b.number::(Ak b.time::(.list (b.items.map B7) .none::([.list (b.values.map C4) .none])))),[Ak a.kind,Ak a.int,Ak a.scale,.val (.string a.text),.list (a.list.map C4) .none,.list (a.fields.map ID) .none,Ak b.number,Ak b.time,.list (l.map B7) p,.list (j.map C4) C]] [(10,H.length,G),(10,l.length,p),(6,j.length,C)] (BW n (A4 n a0 ml7) c b a m H ad l j=some r)) n ⟨V,0,v,([]),N,D,.full,([]),Rk19,ef hs,ef hs,Owns.of_eq ((((u).full 6 0).swap ((List.Perm.cons _ (List.Perm.swap _ _ _)).trans (List.Perm.swap _ _ _))).swap ((List.Perm.cons _ (List.Perm.swap _ _ _)).trans (List.Perm.swap _ _ _))) Et,h⟩ ?_
     rintro ml38 e st ⟨H,ad,l,j,G,p,C,Xl38,Rl38,rfl,rfl,u,h⟩ Ul38 Vl38
     cases ml38 with
     | zero=>cases h
     | succ ml38 =>
     rw [BW] at h
     have hU:=u.unders
     simp only [List.mem_cons,List.not_mem_nil,or_false,forall_eq_or_imp,forall_eq] at hU
     obtain ⟨a3,a2,bn⟩:=hU
     refine td hN ai aj F u ?_
     apply Am;intro K39 ar
     refine rg [1,2,3,4,5,6,8,63] hs ?_
     refine Gw h hs ?_ ?_<;>intro hs h
     rotate_left
     ·refine sx [1,2,3,4,6] hs a8 ?_
      exact ⟨H,l,j,G,p,C,([]),Rl38,ef hs,ef hs,Owns.of_eq ((((u).swap ((List.Perm.cons _ (List.Perm.swap _ _ _)).trans (List.Perm.swap _ _ _))).swap ((List.Perm.cons _ (List.Perm.swap _ _ _)).trans (List.Perm.swap _ _ _))).swap ((List.Perm.cons _ (List.Perm.swap _ _ _)).trans (List.Perm.swap _ _ _))) Et,h⟩
     refine sk [1,2,3,4,5,6,8] hs ar ?_
     clear ar
     apply Am;intro K42 aq
     apply As
     obtain ⟨bo,bg,br,a1,h⟩:=ix C4 h
     obtain ⟨bq,a7,h⟩:=bind_some h
     obtain ⟨av,h⟩:=An h
     have u:=u.swap ((List.Perm.cons _ (List.Perm.swap _ _ _)).trans (List.Perm.swap _ _ _))
     obtain ⟨bk,ao,u,aa⟩:=u.append (P:=Tryz.prog) OW (by rw [JE];rfl) (by decide) 1 av.1 av.2
     replace aa:=fun (ys:List AV) B L o2=>aa (j.map C4) ys B L o2 Et
     replace aa:=fun (y:AV) B L o2=>aa [y] B L o2 Et ev
     try simp only [List.mem_singleton,List.mem_cons,List.not_mem_nil,or_false,forall_eq_or_imp,forall_eq,List.map_append,List.map_cons,List.map_nil,Hv,Hh,Hy,G4,Hm,G5,FR,FX,Hw,D3,D9,Gf,F2,FV,Hg,FQ,He] at aa
     have hs:=Ad a1 hs
     have hs:=Ad aa hs
     refine dk 9 2 1 [1,2,3,4,5,6,8] hs NZ ?_
     refine Ax _ (BL w0 n _ _ _ bo 4 _ a7) (hv hs) ?_
     refine dn hs aq ?_
     clear aq
     obtain ⟨bu,h⟩:=An h
     refine rl [1,2,3,4,5,6,8] hs (fun e s=>Vl38 ml38 e s (Nat.lt_succ_self _)) ?_
     exact ⟨H,(ad+1),l,(j++([bq])),G,p,bk,([]),ao,ef hs,ef hs,Owns.of_eq (((u).swap ((List.Perm.cons _ (List.Perm.swap _ _ _)).trans (List.Perm.swap _ _ _))).swap ((List.Perm.cons _ (List.Perm.swap _ _ _)).trans (List.Perm.swap _ _ _))) Et,h⟩
    ·clear h;rintro e st ⟨z,g,k,af,q,o,Xk35,Rk35,rfl,rfl,u,h⟩
     rw [DU] at h
     have hU:=u.unders
     simp only [List.mem_cons,List.not_mem_nil,or_false,forall_eq_or_imp,forall_eq] at hU
     obtain ⟨a3,a2,bn⟩:=hU
     refine td hN ai aj F u ?_
     obtain ⟨aw,h⟩:=An h
     obtain ⟨a5,ak,u,ab⟩:=u.append (P:=Tryz.prog) Zg7 (by rw [ZW];rfl) (by decide) 1 aw.1 aw.2
     replace ab:=fun (ys:List AV) B L o2=>ab (z.map BF) ys B L o2 Et
     replace ab:=fun (y:AV) B L o2=>ab [y] B L o2 Et ev
     try simp only [List.mem_singleton,List.mem_cons,List.not_mem_nil,or_false,forall_eq_or_imp,forall_eq,List.map_append,List.map_cons,List.map_nil,Hv,Hh,Hy,G4,Hm,G5,FR,FX,Hw,D3,D9,Gf,F2,FV,Hg,FQ,He] at ab
     have hs:=Ad (Vl.cs_eqs a) hs
     have hs:=Ad ab hs
     refine rl [1,2,3,4] hs bc ?_
     exact ⟨(z++([Slt.mk a b.number b.time g k])),a5,([(b.key.cs)++(Ak b.number::(Ak b.time::(.list (b.items.map B7) .none::([.list (b.values.map C4) .none])))),[Ak a.kind,Ak a.int,Ak a.scale,.val (.string a.text),.list (a.list.map C4) .none,.list (a.fields.map ID) .none,Ak b.number,Ak b.time,.list (g.map B7) q,.list (k.map C4) o]]),ak,ef hs,ef hs,Owns.of_eq ((u).sub (List.sublist_append_left [(10,z.length+1,a5)] [(10,g.length,q),(6,k.length,o)])) Et,h⟩
  ·clear h;rintro e st ⟨O,Q,Xk12,Rk12,rfl,rfl,u,h⟩
   rw [DY] at h
   have hU:=u.unders
   simp only [List.mem_cons,List.not_mem_nil,or_false,forall_eq_or_imp,forall_eq] at hU
   refine td hN ai aj F u ?_
   obtain ⟨bt,h⟩:=An h
   refine rl [1,2,3,4] hs (fun e s=>Vl7 ml7 e s (Nat.lt_succ_self _)) ?_
   exact ⟨O,(c+1),Q,([]),Rk12,ef hs,ef hs,Owns.of_eq (u) Et,h⟩
 ·clear h;rintro e st ⟨ag,ah,Xk4,Rk4,rfl,rfl,u,h⟩
  rw [Eo] at h
  have hU:=u.unders
  simp only [List.mem_cons,List.not_mem_nil,or_false,forall_eq_or_imp,forall_eq] at hU
  refine td hN ai aj F u ?_
  refine rg [1,2] hs ?_
  refine rg [2] hs ?_
  exact rt h hs F u
end Go.Proofs.YtcdnijfbfdnjlaaGreatDoor
