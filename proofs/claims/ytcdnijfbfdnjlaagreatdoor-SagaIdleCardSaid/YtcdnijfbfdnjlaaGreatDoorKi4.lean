/-
  Part 4 of the proof: rules and walks that the claim's last text uses.
-/
import Derived.Carry
import Derived.ChangeOld
import Derived.ChangeSlices
import Derived.Deep.DeepHandedRow
import Derived.Deep.DeepWitnessRowRef
import Derived.Lib.AppendZeros
import Derived.Lib.Bytealg
import Derived.Lib.LaidIn
import Derived.Lib.LaidU8T
import Derived.PinnedBridge
import Derived.ProofKit
import Derived.SevenTiedAt
import Derived.Shelf.SlSortCmp.WholeK
import Derived.Shelf.SlicesE.Clone
import Derived.SizedLaws
import Derived.Sort.Lot0
import Derived.Test.YtcdnijfbfdnjlaaGreatDoorCards
import Derived.Test.YtcdnijfbfdnjlaaGreatDoorProg
import Derived.Test.YtcdnijfbfdnjlaaGreatDoorRows
import Derived.Test.YtcdnijfbfdnjlaaGreatDoorTie
import Derived.Test.YtcdnijfbfdnjlaaGreatDoorKi3
set_option linter.unusedSimpArgs false
set_option linter.unusedVariables false
set_option maxRecDepth 100000
set_option maxHeartbeats 4000000
namespace Go.Proofs.YtcdnijfbfdnjlaaGreatDoor
open Go Go.RowKit Go.Ev
structure Part where
 kind:Int
 index:Int
 name:ByteArray
structure Itm where
 v:Vl
 level:Int
structure Lim where
 name:ByteArray
 low:Int
 high:Int
 bounds:Bool
 scale:Bool
 text:Bool
 list:Bool
 fields:Bool
structure Sch where
 name:ByteArray
 version:Int
 type:Ty
theorem Vl.under_mem0 (nb nr nl:Nat) (v:Vl):(∀ x∈v.cs,Under nb nr nl x)↔True:=iff_true_intro (v.under nb nr nl)
theorem Ty.under_mem0 (nb nr nl:Nat) (v:Ty):(∀ x∈v.cs,Under nb nr nl x)↔True:=iff_true_intro (v.under nb nr nl)
structure Msg where
 stamp:Int × List Int
 mass:Int
 origins:List Int
 body:Vl
structure Slt where
 key:Vl
 number:Int
 time:Int
 items:List Msg
 values:List Vl
structure Stt where
 number:Int
 time:Int
 slots:List Slt
structure Nod where
 name:ByteArray
 kind:Int
 schema:Int
 result:Int
 number:Int
 time:Int
 limit:Int
 text:ByteArray
 type:Ty
 types:List Ty
 exprs:List Ex
 mapping:List (ByteArray × Ex)
 calls:List (ByteArray × List (ByteArray × Ex))
 next:List Int
structure Inp where
 kind:Int
 time:Int
 stamp:Int × List Int
 message:Msg
 call:Int
 undo:Bool
 done:Bool
 body:Vl
structure Rqs where
 stamp:Int × List Int
 service:ByteArray
 call:Int
 undo:Bool
 body:Vl
structure Fte where
 stamp:Int × List Int
 kind:Int
 node:ByteArray
 into:List (Int × List Int)
 text:ByteArray
structure Otc where
 state:Stt
 outputs:List (Int × Msg)
 requests:List Rqs
 fates:List Fte
 letters:List Msg
structure Chk where
 items:List Msg
 values:Int
structure Bld where
 n:Nod
 now:Int
 under:Int × List Int
 sent:Int
 out:Otc
def Xa {α:Type} (f:α→AV) (l:List α):AV := .list (l.map f) .none
@[go_sem] theorem Ir {α:Type} (f:α→AV) (l:List α):Xa f l = .list (l.map f) .none:=rfl
@[go_sem] theorem Zlm {α:Type} (f:α→AV) (l:List α) (n:Nat):(l.map f).take n=(l.take n).map f:=List.map_take.symm
@[go_sem] theorem ZlF {α:Type} (f:α→AV) (l:List α) (n:Nat):(l.map f).drop n=(l.drop n).map f:=List.map_drop.symm
attribute [go_sem] List.length_map List.take_length
@[go_sem] theorem Vl.gs (v:Vl) (l:List AV) (d:AV):(v.cs++l).getD 6 d=l.getD 0 d∧(v.cs++l).getD 7 d=l.getD 1 d∧(v.cs++l).getD 8 d=l.getD 2 d∧(v.cs++l).getD 9 d=l.getD 3 d∧(v.cs++l).getD 10 d=l.getD 4 d∧(v.cs++l).getD 11 d=l.getD 5 d∧(v.cs++l).getD 12 d=l.getD 6 d∧(v.cs++l).getD 13 d=l.getD 7 d∧(v.cs++l).getD 14 d=l.getD 8 d∧(v.cs++l).getD 15 d=l.getD 9 d:=by cases v;(repeat' apply Ad)<;>rfl
@[go_sem] theorem Vl.ds (v:Vl) (l:List AV):(v.cs++l).drop 6=l.drop 0∧(v.cs++l).drop 7=l.drop 1∧(v.cs++l).drop 8=l.drop 2∧(v.cs++l).drop 9=l.drop 3∧(v.cs++l).drop 10=l.drop 4∧(v.cs++l).drop 11=l.drop 5∧(v.cs++l).drop 12=l.drop 6∧(v.cs++l).drop 13=l.drop 7∧(v.cs++l).drop 14=l.drop 8∧(v.cs++l).drop 15=l.drop 9:=by cases v;(repeat' apply Ad)<;>rfl
@[go_sem] theorem Vl.ts (v:Vl) (l:List AV):(v.cs++l).take 7=v.cs++l.take 1∧(v.cs++l).take 8=v.cs++l.take 2∧(v.cs++l).take 9=v.cs++l.take 3∧(v.cs++l).take 10=v.cs++l.take 4∧(v.cs++l).take 11=v.cs++l.take 5∧(v.cs++l).take 12=v.cs++l.take 6∧(v.cs++l).take 13=v.cs++l.take 7∧(v.cs++l).take 14=v.cs++l.take 8∧(v.cs++l).take 15=v.cs++l.take 9:=by cases v;(repeat' apply Ad)<;>rfl
@[go_sem] theorem Ty.gs (t:Ty) (l:List AV) (d:AV):(t.cs++l).getD 7 d=l.getD 0 d∧(t.cs++l).getD 8 d=l.getD 1 d∧(t.cs++l).getD 9 d=l.getD 2 d∧(t.cs++l).getD 10 d=l.getD 3 d∧(t.cs++l).getD 11 d=l.getD 4 d∧(t.cs++l).getD 12 d=l.getD 5 d∧(t.cs++l).getD 13 d=l.getD 6 d∧(t.cs++l).getD 14 d=l.getD 7 d∧(t.cs++l).getD 15 d=l.getD 8 d∧(t.cs++l).getD 16 d=l.getD 9 d∧(t.cs++l).getD 17 d=l.getD 10 d∧(t.cs++l).getD 18 d=l.getD 11 d∧(t.cs++l).getD 19 d=l.getD 12 d∧(t.cs++l).getD 20 d=l.getD 13 d∧(t.cs++l).getD 21 d=l.getD 14 d∧(t.cs++l).getD 22 d=l.getD 15 d∧(t.cs++l).getD 23 d=l.getD 16 d∧(t.cs++l).getD 24 d=l.getD 17 d:=by cases t;(repeat' apply Ad)<;>rfl
@[go_sem] theorem Ty.ds (t:Ty) (l:List AV):(t.cs++l).drop 7=l.drop 0∧(t.cs++l).drop 8=l.drop 1∧(t.cs++l).drop 9=l.drop 2∧(t.cs++l).drop 10=l.drop 3∧(t.cs++l).drop 11=l.drop 4∧(t.cs++l).drop 12=l.drop 5∧(t.cs++l).drop 13=l.drop 6∧(t.cs++l).drop 14=l.drop 7∧(t.cs++l).drop 15=l.drop 8∧(t.cs++l).drop 16=l.drop 9∧(t.cs++l).drop 17=l.drop 10∧(t.cs++l).drop 18=l.drop 11∧(t.cs++l).drop 19=l.drop 12∧(t.cs++l).drop 20=l.drop 13∧(t.cs++l).drop 21=l.drop 14∧(t.cs++l).drop 22=l.drop 15∧(t.cs++l).drop 23=l.drop 16∧(t.cs++l).drop 24=l.drop 17:=by cases t;(repeat' apply Ad)<;>rfl
@[go_sem] theorem Ty.ts (t:Ty) (l:List AV):(t.cs++l).take 8=t.cs++l.take 1∧(t.cs++l).take 9=t.cs++l.take 2∧(t.cs++l).take 10=t.cs++l.take 3∧(t.cs++l).take 11=t.cs++l.take 4∧(t.cs++l).take 12=t.cs++l.take 5∧(t.cs++l).take 13=t.cs++l.take 6∧(t.cs++l).take 14=t.cs++l.take 7∧(t.cs++l).take 15=t.cs++l.take 8∧(t.cs++l).take 16=t.cs++l.take 9∧(t.cs++l).take 17=t.cs++l.take 10∧(t.cs++l).take 18=t.cs++l.take 11∧(t.cs++l).take 19=t.cs++l.take 12∧(t.cs++l).take 20=t.cs++l.take 13∧(t.cs++l).take 21=t.cs++l.take 14∧(t.cs++l).take 22=t.cs++l.take 15∧(t.cs++l).take 23=t.cs++l.take 16∧(t.cs++l).take 24=t.cs++l.take 17:=by cases t;(repeat' apply Ad)<;>rfl
@[go_sem] theorem Vl.hs (v:Vl) (l:List AV) (d:AV):(v.cs++l).getD 0 d = .val (.int .i64 v.kind)∧(v.cs++l).getD 1 d = .val (.int .i64 v.int)∧(v.cs++l).getD 2 d = .val (.int .i64 v.scale)∧(v.cs++l).getD 3 d = .val (.string v.text)∧(v.cs++l).getD 4 d = .list (DG v.list) .none∧(v.cs++l).getD 5 d = .list (HV v.fields) .none:=by cases v;(repeat' apply Ad)<;>rfl
def AU (x:Int):AV:=Ak x
@[go_sem] theorem IX (x:Int):AU x=Ak x:=rfl
@[go_sem] theorem ZkM (l:List (Int)):(∀ y∈l.map AU,y.cells.length=1)↔True:=iff_true_intro fun y a=>by
 obtain ⟨x,_,rfl⟩:=List.mem_map.1 a
 simp +decide only [go_sem]
@[go_sem] theorem ZnW (l:List (Int)):(∀ y∈l.map AU,y.cells.length=1∧AA y=true)↔True:=iff_true_intro fun y a=>by
 obtain ⟨x,_,rfl⟩:=List.mem_map.1 a
 simp +decide only [go_sem]
@[go_sem] theorem ZkQ (nb nr nl:Nat) (l:List (Int)):(∀ y∈l.map AU,Under nb nr nl y)↔True:=iff_true_intro fun y a=>by
 obtain ⟨x,_,rfl⟩:=List.mem_map.1 a
 exact .val _
@[go_sem] theorem Zno (l:List (Int)):(l.map AU).map AV.pub=l.map AU:=by
 rw [List.map_map]
 refine List.map_congr_left fun x _=>?_
 simp +decide only [Function.comp,go_sem]
def avB (x:Bool):AV := .val (.bool x)
@[go_sem] theorem Iu (x:Bool):avB x = .val (.bool x):=rfl
@[go_sem] theorem ZjZ (l:List (Bool)):(∀ y∈l.map avB,y.cells.length=1)↔True:=iff_true_intro fun y a=>by
 obtain ⟨x,_,rfl⟩:=List.mem_map.1 a
 simp +decide only [go_sem]
@[go_sem] theorem ZnD (l:List (Bool)):(∀ y∈l.map avB,y.cells.length=1∧AA y=true)↔True:=iff_true_intro fun y a=>by
 obtain ⟨x,_,rfl⟩:=List.mem_map.1 a
 simp +decide only [go_sem]
@[go_sem] theorem Zko (nb nr nl:Nat) (l:List (Bool)):(∀ y∈l.map avB,Under nb nr nl y)↔True:=iff_true_intro fun y a=>by
 obtain ⟨x,_,rfl⟩:=List.mem_map.1 a
 exact .val _
@[go_sem] theorem ZmA (l:List (Bool)):(l.map avB).map AV.pub=l.map avB:=by
 rw [List.map_map]
 refine List.map_congr_left fun x _=>?_
 simp +decide only [Function.comp,go_sem]
def JR (x:ByteArray):AV := .val (.string x)
@[go_sem] theorem Il (x:ByteArray):JR x = .val (.string x):=rfl
@[go_sem] theorem Zkh (l:List (ByteArray)):(∀ y∈l.map JR,y.cells.length=1)↔True:=iff_true_intro fun y a=>by
 obtain ⟨x,_,rfl⟩:=List.mem_map.1 a
 simp +decide only [go_sem]
@[go_sem] theorem ZnM (l:List (ByteArray)):(∀ y∈l.map JR,y.cells.length=1∧AA y=true)↔True:=iff_true_intro fun y a=>by
 obtain ⟨x,_,rfl⟩:=List.mem_map.1 a
 simp +decide only [go_sem]
@[go_sem] theorem Zkx (nb nr nl:Nat) (l:List (ByteArray)):(∀ y∈l.map JR,Under nb nr nl y)↔True:=iff_true_intro fun y a=>by
 obtain ⟨x,_,rfl⟩:=List.mem_map.1 a
 exact .val _
@[go_sem] theorem Zm5 (l:List (ByteArray)):(l.map JR).map AV.pub=l.map JR:=by
 rw [List.map_map]
 refine List.map_congr_left fun x _=>?_
 simp +decide only [Function.comp,go_sem]
def B1 (x:Vl):AV := .agg x.cs
@[go_sem] theorem IA (x:Vl):B1 x = .agg x.cs:=rfl
@[go_sem] theorem ZkH (l:List (Vl)):(∀ y∈l.map B1,y.cells.length=6)↔True:=iff_true_intro fun y a=>by
 obtain ⟨x,_,rfl⟩:=List.mem_map.1 a
 simp +decide only [go_sem]
@[go_sem] theorem ZnF (l:List (Vl)):(∀ y∈l.map B1,y.cells.length=6∧AA y=true)↔True:=iff_true_intro fun y a=>by
 obtain ⟨x,_,rfl⟩:=List.mem_map.1 a
 simp +decide only [go_sem]
@[go_sem] theorem Zj5 (nb nr nl:Nat) (l:List (Vl)):(∀ y∈l.map B1,Under nb nr nl y)↔True:=iff_true_intro fun y a=>by
 obtain ⟨x,_,rfl⟩:=List.mem_map.1 a
 exact .agg (x.under _ _ _)
@[go_sem] theorem ZmD (l:List (Vl)):(l.map B1).map AV.pub=l.map B1:=by
 rw [List.map_map]
 refine List.map_congr_left fun x _=>?_
 simp +decide only [Function.comp,go_sem]
def Ef (x:Ty):AV := .agg x.cs
@[go_sem] theorem Ip (x:Ty):Ef x = .agg x.cs:=rfl
@[go_sem] theorem ZkL (l:List (Ty)):(∀ y∈l.map Ef,y.cells.length=7)↔True:=iff_true_intro fun y a=>by
 obtain ⟨x,_,rfl⟩:=List.mem_map.1 a
 simp +decide only [go_sem]
@[go_sem] theorem ZnX (l:List (Ty)):(∀ y∈l.map Ef,y.cells.length=7∧AA y=true)↔True:=iff_true_intro fun y a=>by
 obtain ⟨x,_,rfl⟩:=List.mem_map.1 a
 simp +decide only [go_sem]
@[go_sem] theorem Zj8 (nb nr nl:Nat) (l:List (Ty)):(∀ y∈l.map Ef,Under nb nr nl y)↔True:=iff_true_intro fun y a=>by
 obtain ⟨x,_,rfl⟩:=List.mem_map.1 a
 exact .agg (x.under _ _ _)
@[go_sem] theorem ZmE (l:List (Ty)):(l.map Ef).map AV.pub=l.map Ef:=by
 rw [List.map_map]
 refine List.map_congr_left fun x _=>?_
 simp +decide only [Function.comp,go_sem]
def IC (x:ByteArray × Vl):AV := .agg (.val (.string x.1)::x.2.cs)
@[go_sem] theorem IR (x:ByteArray × Vl):IC x = .agg (.val (.string x.1)::x.2.cs):=rfl
@[go_sem] theorem Zj6 (l:List (ByteArray × Vl)):(∀ y∈l.map IC,y.cells.length=7)↔True:=iff_true_intro fun y a=>by
 obtain ⟨x,_,rfl⟩:=List.mem_map.1 a
 simp +decide only [go_sem]
@[go_sem] theorem Zop (l:List (ByteArray × Vl)):(∀ y∈l.map IC,y.cells.length=7∧AA y=true)↔True:=iff_true_intro fun y a=>by
 obtain ⟨x,_,rfl⟩:=List.mem_map.1 a
 simp +decide only [go_sem]
@[go_sem] theorem Zj2 (nb nr nl:Nat) (l:List (ByteArray × Vl)):(∀ y∈l.map IC,Under nb nr nl y)↔True:=iff_true_intro fun y a=>by
 obtain ⟨x,_,rfl⟩:=List.mem_map.1 a
 exact I6 nb nr nl [x] _ (by simp [HV,IC])
@[go_sem] theorem Znh (l:List (ByteArray × Vl)):(l.map IC).map AV.pub=l.map IC:=by
 rw [List.map_map]
 refine List.map_congr_left fun x _=>?_
 simp +decide only [Function.comp,go_sem]
def Gn (x:Int × ByteArray × Int × Ty × List Vl):AV := .agg (Ak x.1 :: .val (.string x.2.1)::Ak x.2.2.1::(x.2.2.2.1.cs++[.list (x.2.2.2.2.map B1) .none]))
@[go_sem] theorem G8 (x:Int × ByteArray × Int × Ty × List Vl):Gn x = .agg (Ak x.1 :: .val (.string x.2.1)::Ak x.2.2.1::(x.2.2.2.1.cs++[.list (x.2.2.2.2.map B1) .none])):=rfl
@[go_sem] theorem Zjx (l:List (Int × ByteArray × Int × Ty × List Vl)):(∀ y∈l.map Gn,y.cells.length=11)↔True:=iff_true_intro fun y a=>by
 obtain ⟨x,_,rfl⟩:=List.mem_map.1 a
 simp +decide only [go_sem]
@[go_sem] theorem Zng (l:List (Int × ByteArray × Int × Ty × List Vl)):(∀ y∈l.map Gn,y.cells.length=11∧AA y=true)↔True:=iff_true_intro fun y a=>by
 obtain ⟨x,_,rfl⟩:=List.mem_map.1 a
 simp +decide only [go_sem]
@[go_sem] theorem Zjl (nb nr nl:Nat) (l:List (Int × ByteArray × Int × Ty × List Vl)):(∀ y∈l.map Gn,Under nb nr nl y)↔True:=iff_true_intro fun y a=>by
 obtain ⟨x,_,rfl⟩:=List.mem_map.1 a
 exact H7 nb nr nl [x] _ (by simp [Ho,Gn,Es];intros;rfl)
@[go_sem] theorem Zmt (l:List (Int × ByteArray × Int × Ty × List Vl)):(l.map Gn).map AV.pub=l.map Gn:=by
 rw [List.map_map]
 refine List.map_congr_left fun x _=>?_
 simp +decide only [Function.comp,go_sem]
def SA (x:Sch):AV := .agg (.val (.string x.name)::Ak x.version::x.type.cs)
@[go_sem] theorem EP (x:Sch):SA x = .agg (.val (.string x.name)::Ak x.version::x.type.cs):=rfl
@[go_sem] theorem Zh2 (l:List (Sch)):(∀ y∈l.map SA,y.cells.length=9)↔True:=iff_true_intro fun y a=>by
 obtain ⟨x,_,rfl⟩:=List.mem_map.1 a
 simp +decide only [go_sem]
@[go_sem] theorem ZlQ (l:List (Sch)):(∀ y∈l.map SA,y.cells.length=9∧AA y=true)↔True:=iff_true_intro fun y a=>by
 obtain ⟨x,_,rfl⟩:=List.mem_map.1 a
 simp +decide only [go_sem]
@[go_sem] theorem ZhS (nb nr nl:Nat) (l:List (Sch)):(∀ y∈l.map SA,Under nb nr nl y)↔True:=iff_true_intro fun y a=>by
 obtain ⟨x,_,rfl⟩:=List.mem_map.1 a
 simp only [EP,Cd,List.mem_cons,forall_eq_or_imp,Dq,true_and];exact x.type.under _ _ _
@[go_sem] theorem Zkn (l:List (Sch)):(l.map SA).map AV.pub=l.map SA:=by
 rw [List.map_map]
 refine List.map_congr_left fun x _=>?_
 simp +decide only [Function.comp,go_sem]
def SO (x:Itm):AV := .agg (x.v.cs++[Ak x.level])
@[go_sem] theorem ES (x:Itm):SO x = .agg (x.v.cs++[Ak x.level]):=rfl
@[go_sem] theorem Zhg (l:List (Itm)):(∀ y∈l.map SO,y.cells.length=7)↔True:=iff_true_intro fun y a=>by
 obtain ⟨x,_,rfl⟩:=List.mem_map.1 a
 simp +decide only [go_sem]
@[go_sem] theorem Zk6 (l:List (Itm)):(∀ y∈l.map SO,y.cells.length=7∧AA y=true)↔True:=iff_true_intro fun y a=>by
 obtain ⟨x,_,rfl⟩:=List.mem_map.1 a
 simp +decide only [go_sem]
@[go_sem] theorem Zhs (nb nr nl:Nat) (l:List (Itm)):(∀ y∈l.map SO,Under nb nr nl y)↔True:=iff_true_intro fun y a=>by
 obtain ⟨x,_,rfl⟩:=List.mem_map.1 a
 simp only [ES,Cd,List.mem_append,List.mem_singleton];rintro z (hz | rfl);exact x.v.under _ _ _ z hz;exact .val _
@[go_sem] theorem ZkP (l:List (Itm)):(l.map SO).map AV.pub=l.map SO:=by
 rw [List.map_map]
 refine List.map_congr_left fun x _=>?_
 simp +decide only [Function.comp,go_sem]
def ZP (x:Lim):AV := .agg [.val (.string x.name),Ak x.low,Ak x.high,.val (.bool x.bounds),.val (.bool x.scale),.val (.bool x.text),.val (.bool x.list),.val (.bool x.fields)]
@[go_sem] theorem Hf (x:Lim):ZP x = .agg [.val (.string x.name),Ak x.low,Ak x.high,.val (.bool x.bounds),.val (.bool x.scale),.val (.bool x.text),.val (.bool x.list),.val (.bool x.fields)]:=rfl
@[go_sem] theorem ZiW (l:List (Lim)):(∀ y∈l.map ZP,y.cells.length=8)↔True:=iff_true_intro fun y a=>by
 obtain ⟨x,_,rfl⟩:=List.mem_map.1 a
 simp +decide only [go_sem]
@[go_sem] theorem Zm0 (l:List (Lim)):(∀ y∈l.map ZP,y.cells.length=8∧AA y=true)↔True:=iff_true_intro fun y a=>by
 obtain ⟨x,_,rfl⟩:=List.mem_map.1 a
 simp +decide only [go_sem]
@[go_sem] theorem ZiX (nb nr nl:Nat) (l:List (Lim)):(∀ y∈l.map ZP,Under nb nr nl y)↔True:=iff_true_intro fun y a=>by
 obtain ⟨x,_,rfl⟩:=List.mem_map.1 a
 simp +decide only [go_sem];try intro z b;simp_all [Vl.under,Ty.under]
@[go_sem] theorem Zlv (l:List (Lim)):(l.map ZP).map AV.pub=l.map ZP:=by
 rw [List.map_map]
 refine List.map_congr_left fun x _=>?_
 simp +decide only [Function.comp,go_sem]
def ZaH (x:ByteArray × Int):AV := .agg [.val (.string x.1),Ak x.2]
@[go_sem] theorem Hk (x:ByteArray × Int):ZaH x = .agg [.val (.string x.1),Ak x.2]:=rfl
@[go_sem] theorem Zjt (l:List (ByteArray × Int)):(∀ y∈l.map ZaH,y.cells.length=2)↔True:=iff_true_intro fun y a=>by
 obtain ⟨x,_,rfl⟩:=List.mem_map.1 a
 simp +decide only [go_sem]
@[go_sem] theorem Znm (l:List (ByteArray × Int)):(∀ y∈l.map ZaH,y.cells.length=2∧AA y=true)↔True:=iff_true_intro fun y a=>by
 obtain ⟨x,_,rfl⟩:=List.mem_map.1 a
 simp +decide only [go_sem]
@[go_sem] theorem Zjb (nb nr nl:Nat) (l:List (ByteArray × Int)):(∀ y∈l.map ZaH,Under nb nr nl y)↔True:=iff_true_intro fun y a=>by
 obtain ⟨x,_,rfl⟩:=List.mem_map.1 a
 simp +decide only [go_sem];try intro z b;simp_all [Vl.under,Ty.under]
@[go_sem] theorem Zmu (l:List (ByteArray × Int)):(l.map ZaH).map AV.pub=l.map ZaH:=by
 rw [List.map_map]
 refine List.map_congr_left fun x _=>?_
 simp +decide only [Function.comp,go_sem]
def Zam (x:Ty × Ty):AV := .agg (x.1.cs++x.2.cs)
@[go_sem] theorem GV (x:Ty × Ty):Zam x = .agg (x.1.cs++x.2.cs):=rfl
@[go_sem] theorem Zii (l:List (Ty × Ty)):(∀ y∈l.map Zam,y.cells.length=14)↔True:=iff_true_intro fun y a=>by
 obtain ⟨x,_,rfl⟩:=List.mem_map.1 a
 simp +decide only [go_sem]
@[go_sem] theorem Znk (l:List (Ty × Ty)):(∀ y∈l.map Zam,y.cells.length=14∧AA y=true)↔True:=iff_true_intro fun y a=>by
 obtain ⟨x,_,rfl⟩:=List.mem_map.1 a
 simp +decide only [go_sem]
@[go_sem] theorem Zig (nb nr nl:Nat) (l:List (Ty × Ty)):(∀ y∈l.map Zam,Under nb nr nl y)↔True:=iff_true_intro fun y b=>by
 obtain ⟨x,_,rfl⟩:=List.mem_map.1 b
 exact .agg fun z a=>(List.mem_append.1 a).elim (x.1.under _ _ _ z) (x.2.under _ _ _ z)
@[go_sem] theorem Zk4 (l:List (Ty × Ty)):(l.map Zam).map AV.pub=l.map Zam:=by
 rw [List.map_map]
 refine List.map_congr_left fun x _=>?_
 simp +decide only [Function.comp,go_sem]
def Rt (x:Part):AV := .agg [Ak x.kind,Ak x.index,.val (.string x.name)]
@[go_sem] theorem GX (x:Part):Rt x = .agg [Ak x.kind,Ak x.index,.val (.string x.name)]:=rfl
@[go_sem] theorem Zja (l:List (Part)):(∀ y∈l.map Rt,y.cells.length=3)↔True:=iff_true_intro fun y a=>by
 obtain ⟨x,_,rfl⟩:=List.mem_map.1 a
 simp +decide only [go_sem]
@[go_sem] theorem Znd (l:List (Part)):(∀ y∈l.map Rt,y.cells.length=3∧AA y=true)↔True:=iff_true_intro fun y a=>by
 obtain ⟨x,_,rfl⟩:=List.mem_map.1 a
 simp +decide only [go_sem]
@[go_sem] theorem ZjJ (nb nr nl:Nat) (l:List (Part)):(∀ y∈l.map Rt,Under nb nr nl y)↔True:=iff_true_intro fun y a=>by
 obtain ⟨x,_,rfl⟩:=List.mem_map.1 a
 simp +decide only [go_sem];try intro z b;simp_all [Vl.under,Ty.under]
@[go_sem] theorem ZlA (l:List (Part)):(l.map Rt).map AV.pub=l.map Rt:=by
 rw [List.map_map]
 refine List.map_congr_left fun x _=>?_
 simp +decide only [Function.comp,go_sem]
def Gy (x:Ex):AV := .agg x.cs
@[go_sem] theorem Iz (x:Ex):Gy x = .agg x.cs:=rfl
@[go_sem] theorem Zkm (l:List (Ex)):(∀ y∈l.map Gy,y.cells.length=5)↔True:=iff_true_intro fun y a=>by
 obtain ⟨x,_,rfl⟩:=List.mem_map.1 a
 simp +decide only [go_sem]
@[go_sem] theorem Zn1 (l:List (Ex)):(∀ y∈l.map Gy,y.cells.length=5∧AA y=true)↔True:=iff_true_intro fun y a=>by
 obtain ⟨x,_,rfl⟩:=List.mem_map.1 a
 simp +decide only [go_sem]
@[go_sem] theorem ZkO (nb nr nl:Nat) (l:List (Ex)):(∀ y∈l.map Gy,Under nb nr nl y)↔True:=iff_true_intro fun y a=>by
 obtain ⟨x,_,rfl⟩:=List.mem_map.1 a
 exact .agg (x.under _ _ _)
@[go_sem] theorem Znq (l:List (Ex)):(l.map Gy).map AV.pub=l.map Gy:=by
 rw [List.map_map]
 refine List.map_congr_left fun x _=>?_
 simp +decide only [Function.comp,go_sem]
def Bq (x:ByteArray × Ex):AV := .agg (.val (.string x.1)::x.2.cs)
@[go_sem] theorem Hj (x:ByteArray × Ex):Bq x = .agg (.val (.string x.1)::x.2.cs):=rfl
@[go_sem] theorem Zjc (l:List (ByteArray × Ex)):(∀ y∈l.map Bq,y.cells.length=6)↔True:=iff_true_intro fun y a=>by
 obtain ⟨x,_,rfl⟩:=List.mem_map.1 a
 simp +decide only [go_sem]
@[go_sem] theorem Zni (l:List (ByteArray × Ex)):(∀ y∈l.map Bq,y.cells.length=6∧AA y=true)↔True:=iff_true_intro fun y a=>by
 obtain ⟨x,_,rfl⟩:=List.mem_map.1 a
 simp +decide only [go_sem]
@[go_sem] theorem ZiT (nb nr nl:Nat) (l:List (ByteArray × Ex)):(∀ y∈l.map Bq,Under nb nr nl y)↔True:=iff_true_intro fun y b=>by
 obtain ⟨x,_,rfl⟩:=List.mem_map.1 b
 exact .agg fun z a=>(List.mem_cons.1 a).elim (fun e=>e ▸ .val _) (x.2.under _ _ _ z)
@[go_sem] theorem Zma (l:List (ByteArray × Ex)):(l.map Bq).map AV.pub=l.map Bq:=by
 rw [List.map_map]
 refine List.map_congr_left fun x _=>?_
 simp +decide only [Function.comp,go_sem]
def avM (x:List (ByteArray × Ex)):AV := .agg [.list (x.map Bq) .none]
@[go_sem] theorem IE (x:List (ByteArray × Ex)):avM x = .agg [.list (x.map Bq) .none]:=rfl
@[go_sem] theorem Zkq (l:List (List (ByteArray × Ex))):(∀ y∈l.map avM,y.cells.length=1)↔True:=iff_true_intro fun y a=>by
 obtain ⟨x,_,rfl⟩:=List.mem_map.1 a
 simp +decide only [go_sem]
@[go_sem] theorem Zn8 (l:List (List (ByteArray × Ex))):(∀ y∈l.map avM,y.cells.length=1∧AA y=true)↔True:=iff_true_intro fun y a=>by
 obtain ⟨x,_,rfl⟩:=List.mem_map.1 a
 simp +decide only [go_sem]
@[go_sem] theorem Zki (nb nr nl:Nat) (l:List (List (ByteArray × Ex))):(∀ y∈l.map avM,Under nb nr nl y)↔True:=iff_true_intro fun y a=>by
 obtain ⟨x,_,rfl⟩:=List.mem_map.1 a
 simp +decide only [go_sem]
@[go_sem] theorem Zm8 (l:List (List (ByteArray × Ex))):(l.map avM).map AV.pub=l.map avM:=by
 rw [List.map_map]
 refine List.map_congr_left fun x _=>?_
 simp +decide only [Function.comp,go_sem]
def NI (x:Int × List Int):AV := .agg [Ak x.1,.list (x.2.map AU) .none]
@[go_sem] theorem ZgO (x:Int × List Int):NI x = .agg [Ak x.1,.list (x.2.map AU) .none]:=rfl
@[go_sem] theorem ZiL (l:List (Int × List Int)):(∀ y∈l.map NI,y.cells.length=2)↔True:=iff_true_intro fun y a=>by
 obtain ⟨x,_,rfl⟩:=List.mem_map.1 a
 simp +decide only [go_sem]
@[go_sem] theorem ZmJ (l:List (Int × List Int)):(∀ y∈l.map NI,y.cells.length=2∧AA y=true)↔True:=iff_true_intro fun y a=>by
 obtain ⟨x,_,rfl⟩:=List.mem_map.1 a
 simp +decide only [go_sem]
@[go_sem] theorem Zib (nb nr nl:Nat) (l:List (Int × List Int)):(∀ y∈l.map NI,Under nb nr nl y)↔True:=iff_true_intro fun y a=>by
 obtain ⟨x,_,rfl⟩:=List.mem_map.1 a
 simp only [ZgO,Cd,List.mem_cons,List.mem_append,List.not_mem_nil,or_false,forall_eq_or_imp,or_imp,forall_and,forall_eq,Dq,true_and,and_true,Vl.under_mem0 nb nr nl,Ty.under_mem0 nb nr nl];all_goals simp +decide only [go_sem]
@[go_sem] theorem Zk8 (l:List (Int × List Int)):(l.map NI).map AV.pub=l.map NI:=by
 rw [List.map_map]
 refine List.map_congr_left fun x _=>?_
 simp +decide only [Function.comp,go_sem]
def A9 (x:Msg):AV := .agg (Ak x.stamp.1 :: .list (x.stamp.2.map AU) .none::Ak x.mass :: .list (x.origins.map AU) .none::x.body.cs)
@[go_sem] theorem Zgc (x:Msg):A9 x = .agg (Ak x.stamp.1 :: .list (x.stamp.2.map AU) .none::Ak x.mass :: .list (x.origins.map AU) .none::x.body.cs):=rfl
@[go_sem] theorem ZjD (l:List (Msg)):(∀ y∈l.map A9,y.cells.length=10)↔True:=iff_true_intro fun y a=>by
 obtain ⟨x,_,rfl⟩:=List.mem_map.1 a
 simp +decide only [go_sem]
@[go_sem] theorem ZmB (l:List (Msg)):(∀ y∈l.map A9,y.cells.length=10∧AA y=true)↔True:=iff_true_intro fun y a=>by
 obtain ⟨x,_,rfl⟩:=List.mem_map.1 a
 simp +decide only [go_sem]
@[go_sem] theorem Zi4 (nb nr nl:Nat) (l:List (Msg)):(∀ y∈l.map A9,Under nb nr nl y)↔True:=iff_true_intro fun y a=>by
 obtain ⟨x,_,rfl⟩:=List.mem_map.1 a
 simp only [Zgc,Cd,List.mem_cons,List.mem_append,List.not_mem_nil,or_false,forall_eq_or_imp,or_imp,forall_and,forall_eq,Dq,true_and,and_true,Vl.under_mem0 nb nr nl,Ty.under_mem0 nb nr nl];all_goals simp +decide only [go_sem]
@[go_sem] theorem ZlU (l:List (Msg)):(l.map A9).map AV.pub=l.map A9:=by
 rw [List.map_map]
 refine List.map_congr_left fun x _=>?_
 simp +decide only [Function.comp,go_sem]
def A3 (x:Slt):AV := .agg (x.key.cs++[Ak x.number,Ak x.time,.list (x.items.map A9) .none,.list (x.values.map B1) .none])
@[go_sem] theorem Zfl (x:Slt):A3 x = .agg (x.key.cs++[Ak x.number,Ak x.time,.list (x.items.map A9) .none,.list (x.values.map B1) .none]):=rfl
@[go_sem] theorem Zim (l:List (Slt)):(∀ y∈l.map A3,y.cells.length=10)↔True:=iff_true_intro fun y a=>by
 obtain ⟨x,_,rfl⟩:=List.mem_map.1 a
 simp +decide only [go_sem]
@[go_sem] theorem ZmG (l:List (Slt)):(∀ y∈l.map A3,y.cells.length=10∧AA y=true)↔True:=iff_true_intro fun y a=>by
 obtain ⟨x,_,rfl⟩:=List.mem_map.1 a
 simp +decide only [go_sem]
@[go_sem] theorem Zis (nb nr nl:Nat) (l:List (Slt)):(∀ y∈l.map A3,Under nb nr nl y)↔True:=iff_true_intro fun y a=>by
 obtain ⟨x,_,rfl⟩:=List.mem_map.1 a
 simp only [Zfl,Cd,List.mem_cons,List.mem_append,List.not_mem_nil,or_false,forall_eq_or_imp,or_imp,forall_and,forall_eq,Dq,true_and,and_true,Vl.under_mem0 nb nr nl,Ty.under_mem0 nb nr nl];all_goals simp +decide only [go_sem]
@[go_sem] theorem Zmi (l:List (Slt)):(l.map A3).map AV.pub=l.map A3:=by
 rw [List.map_map]
 refine List.map_congr_left fun x _=>?_
 simp +decide only [Function.comp,go_sem]
def Xg (x:Stt):AV := .agg [Ak x.number,Ak x.time,.list (x.slots.map A3) .none]
@[go_sem] theorem Zq (x:Stt):Xg x = .agg [Ak x.number,Ak x.time,.list (x.slots.map A3) .none]:=rfl
@[go_sem] theorem ZjR (l:List (Stt)):(∀ y∈l.map Xg,y.cells.length=3)↔True:=iff_true_intro fun y a=>by
 obtain ⟨x,_,rfl⟩:=List.mem_map.1 a
 simp +decide only [go_sem]
@[go_sem] theorem ZmH (l:List (Stt)):(∀ y∈l.map Xg,y.cells.length=3∧AA y=true)↔True:=iff_true_intro fun y a=>by
 obtain ⟨x,_,rfl⟩:=List.mem_map.1 a
 simp +decide only [go_sem]
@[go_sem] theorem Zi0 (nb nr nl:Nat) (l:List (Stt)):(∀ y∈l.map Xg,Under nb nr nl y)↔True:=iff_true_intro fun y a=>by
 obtain ⟨x,_,rfl⟩:=List.mem_map.1 a
 simp only [Zq,Cd,List.mem_cons,List.mem_append,List.not_mem_nil,or_false,forall_eq_or_imp,or_imp,forall_and,forall_eq,Dq,true_and,and_true,Vl.under_mem0 nb nr nl,Ty.under_mem0 nb nr nl];all_goals simp +decide only [go_sem]
@[go_sem] theorem Zlu (l:List (Stt)):(l.map Xg).map AV.pub=l.map Xg:=by
 rw [List.map_map]
 refine List.map_congr_left fun x _=>?_
 simp +decide only [Function.comp,go_sem]
def B2 (x:ByteArray × List (ByteArray × Ex)):AV := .agg [.val (.string x.1),.list (x.2.map Bq) .none]
@[go_sem] theorem Zgh (x:ByteArray × List (ByteArray × Ex)):B2 x = .agg [.val (.string x.1),.list (x.2.map Bq) .none]:=rfl
@[go_sem] theorem ZiI (l:List (ByteArray × List (ByteArray × Ex))):(∀ y∈l.map B2,y.cells.length=2)↔True:=iff_true_intro fun y a=>by
 obtain ⟨x,_,rfl⟩:=List.mem_map.1 a
 simp +decide only [go_sem]
@[go_sem] theorem Znn (l:List (ByteArray × List (ByteArray × Ex))):(∀ y∈l.map B2,y.cells.length=2∧AA y=true)↔True:=iff_true_intro fun y a=>by
 obtain ⟨x,_,rfl⟩:=List.mem_map.1 a
 simp +decide only [go_sem]
@[go_sem] theorem Zji (nb nr nl:Nat) (l:List (ByteArray × List (ByteArray × Ex))):(∀ y∈l.map B2,Under nb nr nl y)↔True:=iff_true_intro fun y a=>by
 obtain ⟨x,_,rfl⟩:=List.mem_map.1 a
 simp only [Zgh,Cd,List.mem_cons,List.mem_append,List.not_mem_nil,or_false,forall_eq_or_imp,or_imp,forall_and,forall_eq,Dq,true_and,and_true,Vl.under_mem0 nb nr nl,Ty.under_mem0 nb nr nl];all_goals simp +decide only [go_sem]
@[go_sem] theorem Zlj (l:List (ByteArray × List (ByteArray × Ex))):(l.map B2).map AV.pub=l.map B2:=by
 rw [List.map_map]
 refine List.map_congr_left fun x _=>?_
 simp +decide only [Function.comp,go_sem]
def Xe (x:Nod):AV := .agg (.val (.string x.name)::Ak x.kind::Ak x.schema::Ak x.result::Ak x.number::Ak x.time::Ak x.limit :: .val (.string x.text)::(x.type.cs++[.list (x.types.map Ef) .none,.list (x.exprs.map Gy) .none,.list (x.mapping.map Bq) .none,.list (x.calls.map B2) .none,.list (x.next.map AU) .none]))
@[go_sem] theorem Zb (x:Nod):Xe x = .agg (.val (.string x.name)::Ak x.kind::Ak x.schema::Ak x.result::Ak x.number::Ak x.time::Ak x.limit :: .val (.string x.text)::(x.type.cs++[.list (x.types.map Ef) .none,.list (x.exprs.map Gy) .none,.list (x.mapping.map Bq) .none,.list (x.calls.map B2) .none,.list (x.next.map AU) .none])):=rfl
@[go_sem] theorem ZjB (l:List (Nod)):(∀ y∈l.map Xe,y.cells.length=20)↔True:=iff_true_intro fun y a=>by
 obtain ⟨x,_,rfl⟩:=List.mem_map.1 a
 simp +decide only [go_sem]
@[go_sem] theorem ZmR (l:List (Nod)):(∀ y∈l.map Xe,y.cells.length=20∧AA y=true)↔True:=iff_true_intro fun y a=>by
 obtain ⟨x,_,rfl⟩:=List.mem_map.1 a
 simp +decide only [go_sem]
@[go_sem] theorem Zi2 (nb nr nl:Nat) (l:List (Nod)):(∀ y∈l.map Xe,Under nb nr nl y)↔True:=iff_true_intro fun y a=>by
 obtain ⟨x,_,rfl⟩:=List.mem_map.1 a
 simp only [Zb,Cd,List.mem_cons,List.mem_append,List.not_mem_nil,or_false,forall_eq_or_imp,or_imp,forall_and,forall_eq,Dq,true_and,and_true,Vl.under_mem0 nb nr nl,Ty.under_mem0 nb nr nl];all_goals simp +decide only [go_sem]
@[go_sem] theorem ZlY (l:List (Nod)):(l.map Xe).map AV.pub=l.map Xe:=by
 rw [List.map_map]
 refine List.map_congr_left fun x _=>?_
 simp +decide only [Function.comp,go_sem]
def Yk (x:Inp):AV := .agg (Ak x.kind::Ak x.time::Ak x.stamp.1 :: .list (x.stamp.2.map AU) .none::((Ak x.message.stamp.1 :: .list (x.message.stamp.2.map AU) .none::Ak x.message.mass :: .list (x.message.origins.map AU) .none::x.message.body.cs)++(Ak x.call :: .val (.bool x.undo) :: .val (.bool x.done)::x.body.cs)))
@[go_sem] theorem Zx (x:Inp):Yk x = .agg (Ak x.kind::Ak x.time::Ak x.stamp.1 :: .list (x.stamp.2.map AU) .none::((Ak x.message.stamp.1 :: .list (x.message.stamp.2.map AU) .none::Ak x.message.mass :: .list (x.message.origins.map AU) .none::x.message.body.cs)++(Ak x.call :: .val (.bool x.undo) :: .val (.bool x.done)::x.body.cs))):=rfl
@[go_sem] theorem Zjy (l:List (Inp)):(∀ y∈l.map Yk,y.cells.length=23)↔True:=iff_true_intro fun y a=>by
 obtain ⟨x,_,rfl⟩:=List.mem_map.1 a
 simp +decide only [go_sem]
@[go_sem] theorem ZmL (l:List (Inp)):(∀ y∈l.map Yk,y.cells.length=23∧AA y=true)↔True:=iff_true_intro fun y a=>by
 obtain ⟨x,_,rfl⟩:=List.mem_map.1 a
 simp +decide only [go_sem]
@[go_sem] theorem ZjU (nb nr nl:Nat) (l:List (Inp)):(∀ y∈l.map Yk,Under nb nr nl y)↔True:=iff_true_intro fun y a=>by
 obtain ⟨x,_,rfl⟩:=List.mem_map.1 a
 simp only [Zx,Cd,List.mem_cons,List.mem_append,List.not_mem_nil,or_false,forall_eq_or_imp,or_imp,forall_and,forall_eq,Dq,true_and,and_true,Vl.under_mem0 nb nr nl,Ty.under_mem0 nb nr nl];all_goals simp +decide only [go_sem]
@[go_sem] theorem Zla (l:List (Inp)):(l.map Yk).map AV.pub=l.map Yk:=by
 rw [List.map_map]
 refine List.map_congr_left fun x _=>?_
 simp +decide only [Function.comp,go_sem]
def ME (x:Int × Msg):AV := .agg (Ak x.1::Ak x.2.stamp.1 :: .list (x.2.stamp.2.map AU) .none::Ak x.2.mass :: .list (x.2.origins.map AU) .none::x.2.body.cs)
@[go_sem] theorem ZgK (x:Int × Msg):ME x = .agg (Ak x.1::Ak x.2.stamp.1 :: .list (x.2.stamp.2.map AU) .none::Ak x.2.mass :: .list (x.2.origins.map AU) .none::x.2.body.cs):=rfl
@[go_sem] theorem Zie (l:List (Int × Msg)):(∀ y∈l.map ME,y.cells.length=11)↔True:=iff_true_intro fun y a=>by
 obtain ⟨x,_,rfl⟩:=List.mem_map.1 a
 simp +decide only [go_sem]
@[go_sem] theorem Zm9 (l:List (Int × Msg)):(∀ y∈l.map ME,y.cells.length=11∧AA y=true)↔True:=iff_true_intro fun y a=>by
 obtain ⟨x,_,rfl⟩:=List.mem_map.1 a
 simp +decide only [go_sem]
@[go_sem] theorem ZjE (nb nr nl:Nat) (l:List (Int × Msg)):(∀ y∈l.map ME,Under nb nr nl y)↔True:=iff_true_intro fun y a=>by
 obtain ⟨x,_,rfl⟩:=List.mem_map.1 a
 simp only [ZgK,Cd,List.mem_cons,List.mem_append,List.not_mem_nil,or_false,forall_eq_or_imp,or_imp,forall_and,forall_eq,Dq,true_and,and_true,Vl.under_mem0 nb nr nl,Ty.under_mem0 nb nr nl];all_goals simp +decide only [go_sem]
@[go_sem] theorem Zmg (l:List (Int × Msg)):(l.map ME).map AV.pub=l.map ME:=by
 rw [List.map_map]
 refine List.map_congr_left fun x _=>?_
 simp +decide only [Function.comp,go_sem]
def IZ (x:Rqs):AV := .agg (Ak x.stamp.1 :: .list (x.stamp.2.map AU) .none :: .val (.string x.service)::Ak x.call :: .val (.bool x.undo)::x.body.cs)
@[go_sem] theorem ZgB (x:Rqs):IZ x = .agg (Ak x.stamp.1 :: .list (x.stamp.2.map AU) .none :: .val (.string x.service)::Ak x.call :: .val (.bool x.undo)::x.body.cs):=rfl
@[go_sem] theorem ZiN (l:List (Rqs)):(∀ y∈l.map IZ,y.cells.length=11)↔True:=iff_true_intro fun y a=>by
 obtain ⟨x,_,rfl⟩:=List.mem_map.1 a
 simp +decide only [go_sem]
@[go_sem] theorem ZmK (l:List (Rqs)):(∀ y∈l.map IZ,y.cells.length=11∧AA y=true)↔True:=iff_true_intro fun y a=>by
 obtain ⟨x,_,rfl⟩:=List.mem_map.1 a
 simp +decide only [go_sem]
@[go_sem] theorem Ziq (nb nr nl:Nat) (l:List (Rqs)):(∀ y∈l.map IZ,Under nb nr nl y)↔True:=iff_true_intro fun y a=>by
 obtain ⟨x,_,rfl⟩:=List.mem_map.1 a
 simp only [ZgB,Cd,List.mem_cons,List.mem_append,List.not_mem_nil,or_false,forall_eq_or_imp,or_imp,forall_and,forall_eq,Dq,true_and,and_true,Vl.under_mem0 nb nr nl,Ty.under_mem0 nb nr nl];all_goals simp +decide only [go_sem]
@[go_sem] theorem Zms (l:List (Rqs)):(l.map IZ).map AV.pub=l.map IZ:=by
 rw [List.map_map]
 refine List.map_congr_left fun x _=>?_
 simp +decide only [Function.comp,go_sem]
def Jt (x:Fte):AV := .agg [Ak x.stamp.1,.list (x.stamp.2.map AU) .none,Ak x.kind,.val (.string x.node),.list (x.into.map NI) .none,.val (.string x.text)]
@[go_sem] theorem ZgD (x:Fte):Jt x = .agg [Ak x.stamp.1,.list (x.stamp.2.map AU) .none,Ak x.kind,.val (.string x.node),.list (x.into.map NI) .none,.val (.string x.text)]:=rfl
@[go_sem] theorem Zix (l:List (Fte)):(∀ y∈l.map Jt,y.cells.length=6)↔True:=iff_true_intro fun y a=>by
 obtain ⟨x,_,rfl⟩:=List.mem_map.1 a
 simp +decide only [go_sem]
@[go_sem] theorem Znl (l:List (Fte)):(∀ y∈l.map Jt,y.cells.length=6∧AA y=true)↔True:=iff_true_intro fun y a=>by
 obtain ⟨x,_,rfl⟩:=List.mem_map.1 a
 simp +decide only [go_sem]
@[go_sem] theorem Ziv (nb nr nl:Nat) (l:List (Fte)):(∀ y∈l.map Jt,Under nb nr nl y)↔True:=iff_true_intro fun y a=>by
 obtain ⟨x,_,rfl⟩:=List.mem_map.1 a
 simp only [ZgD,Cd,List.mem_cons,List.mem_append,List.not_mem_nil,or_false,forall_eq_or_imp,or_imp,forall_and,forall_eq,Dq,true_and,and_true,Vl.under_mem0 nb nr nl,Ty.under_mem0 nb nr nl];all_goals simp +decide only [go_sem]
@[go_sem] theorem Zlg (l:List (Fte)):(l.map Jt).map AV.pub=l.map Jt:=by
 rw [List.map_map]
 refine List.map_congr_left fun x _=>?_
 simp +decide only [Function.comp,go_sem]
def R9 (x:Int × ByteArray × Bool):AV := .agg [Ak x.1,.val (.string x.2.1),.val (.bool x.2.2)]
@[go_sem] theorem Zgt (x:Int × ByteArray × Bool):R9 x = .agg [Ak x.1,.val (.string x.2.1),.val (.bool x.2.2)]:=rfl
@[go_sem] theorem ZiQ (l:List (Int × ByteArray × Bool)):(∀ y∈l.map R9,y.cells.length=3)↔True:=iff_true_intro fun y a=>by
 obtain ⟨x,_,rfl⟩:=List.mem_map.1 a
 simp +decide only [go_sem]
@[go_sem] theorem Zm3 (l:List (Int × ByteArray × Bool)):(∀ y∈l.map R9,y.cells.length=3∧AA y=true)↔True:=iff_true_intro fun y a=>by
 obtain ⟨x,_,rfl⟩:=List.mem_map.1 a
 simp +decide only [go_sem]
@[go_sem] theorem ZiM (nb nr nl:Nat) (l:List (Int × ByteArray × Bool)):(∀ y∈l.map R9,Under nb nr nl y)↔True:=iff_true_intro fun y a=>by
 obtain ⟨x,_,rfl⟩:=List.mem_map.1 a
 simp only [Zgt,Cd,List.mem_cons,List.mem_append,List.not_mem_nil,or_false,forall_eq_or_imp,or_imp,forall_and,forall_eq,Dq,true_and,and_true,Vl.under_mem0 nb nr nl,Ty.under_mem0 nb nr nl];all_goals simp +decide only [go_sem]
@[go_sem] theorem Zmr (l:List (Int × ByteArray × Bool)):(l.map R9).map AV.pub=l.map R9:=by
 rw [List.map_map]
 refine List.map_congr_left fun x _=>?_
 simp +decide only [Function.comp,go_sem]
@[go_sem] theorem Zhl (l:List (List Part)):(∀ y∈l.map (Xa Rt),y.cells.length=1)↔True:=iff_true_intro fun y a=>by
 obtain ⟨x,_,rfl⟩:=List.mem_map.1 a
 simp +decide only [go_sem]
@[go_sem] theorem Zls (l:List (List Part)):(∀ y∈l.map (Xa Rt),y.cells.length=1∧AA y=true)↔True:=iff_true_intro fun y a=>by
 obtain ⟨x,_,rfl⟩:=List.mem_map.1 a
 simp +decide only [go_sem]
@[go_sem] theorem Zhk (nb nr nl:Nat) (l:List (List Part)):(∀ y∈l.map (Xa Rt),Under nb nr nl y)↔True:=iff_true_intro fun y a=>by
 obtain ⟨x,_,rfl⟩:=List.mem_map.1 a
 simp +decide only [go_sem]
@[go_sem] theorem Zkf (l:List (List Part)):(l.map (Xa Rt)).map AV.pub=l.map (Xa Rt):=by
 rw [List.map_map]
 refine List.map_congr_left fun x _=>?_
 simp +decide only [Function.comp,go_sem]
@[go_sem] theorem Zip (l:List (List ByteArray)):(∀ y∈l.map (Xa JR),y.cells.length=1)↔True:=iff_true_intro fun y a=>by
 obtain ⟨x,_,rfl⟩:=List.mem_map.1 a
 simp +decide only [go_sem]
@[go_sem] theorem Zmx (l:List (List ByteArray)):(∀ y∈l.map (Xa JR),y.cells.length=1∧AA y=true)↔True:=iff_true_intro fun y a=>by
 obtain ⟨x,_,rfl⟩:=List.mem_map.1 a
 simp +decide only [go_sem]
@[go_sem] theorem Zi8 (nb nr nl:Nat) (l:List (List ByteArray)):(∀ y∈l.map (Xa JR),Under nb nr nl y)↔True:=iff_true_intro fun y a=>by
 obtain ⟨x,_,rfl⟩:=List.mem_map.1 a
 simp +decide only [go_sem]
@[go_sem] theorem ZkU (l:List (List ByteArray)):(l.map (Xa JR)).map AV.pub=l.map (Xa JR):=by
 rw [List.map_map]
 refine List.map_congr_left fun x _=>?_
 simp +decide only [Function.comp,go_sem]
@[go_sem] theorem Zin (l:List (List Int)):(∀ y∈l.map (Xa AU),y.cells.length=1)↔True:=iff_true_intro fun y a=>by
 obtain ⟨x,_,rfl⟩:=List.mem_map.1 a
 simp +decide only [go_sem]
@[go_sem] theorem ZmX (l:List (List Int)):(∀ y∈l.map (Xa AU),y.cells.length=1∧AA y=true)↔True:=iff_true_intro fun y a=>by
 obtain ⟨x,_,rfl⟩:=List.mem_map.1 a
 simp +decide only [go_sem]
@[go_sem] theorem Zif (nb nr nl:Nat) (l:List (List Int)):(∀ y∈l.map (Xa AU),Under nb nr nl y)↔True:=iff_true_intro fun y a=>by
 obtain ⟨x,_,rfl⟩:=List.mem_map.1 a
 simp +decide only [go_sem]
@[go_sem] theorem Zmo (l:List (List Int)):(l.map (Xa AU)).map AV.pub=l.map (Xa AU):=by
 rw [List.map_map]
 refine List.map_congr_left fun x _=>?_
 simp +decide only [Function.comp,go_sem]
@[go_sem] theorem ZbK (l:List Ex):Ll l=l.map Gy:=LZ l
@[go_sem] theorem Ex.under_mem (nb nr nl:Nat) (v:Ex):(∀ x∈v.cs,Under nb nr nl x)↔True:=iff_true_intro (v.under nb nr nl)
theorem Ex.cs_eqs (v:Ex):v.cs=[Ak v.op,Ak v.int,.val (.string v.text),.list (v.value.map B1) .none,.list (v.args.map Gy) .none]:=by
 cases v;rw [Ex.cs,Es,LZ];rfl
@[go_sem] theorem Ex.cs_mks (o i:Int) (t:ByteArray) (v:List Vl) (a:List Ex):(Ex.mk o i t v a).cs=[Ak o,Ak i,.val (.string t),.list (v.map B1) .none,.list (a.map Gy) .none]:=Ex.cs_eqs _
@[go_sem] theorem Oa (l:List Vl):DG l=l.map B1:=Es l
@[go_sem] theorem Vu (l:List Ty):KH l=l.map Ef:=OJ l
@[go_sem] theorem Wq (l:List (ByteArray × Vl)):HV l=l.map IC:=LY l
@[go_sem] theorem TG (l:List (Int × ByteArray × Int × Ty × List Vl)):Ho l=l.map Gn:=by
 rw [MQ]
 refine List.map_congr_left fun x _=>?_
 rw [Oa];rfl
@[go_sem] theorem ZbN (l:List ByteArray):(l.map fun x=>AV.val (.string x))=l.map JR:=rfl
@[go_sem] theorem Vl.under_mem (nb nr nl:Nat) (v:Vl):(∀ x∈v.cs,Under nb nr nl x)↔True:=iff_true_intro (v.under nb nr nl)
@[go_sem] theorem Ty.under_mem (nb nr nl:Nat) (v:Ty):(∀ x∈v.cs,Under nb nr nl x)↔True:=iff_true_intro (v.under nb nr nl)
@[go_sem] theorem ZhA {α:Type} (p:α→Prop) (l m:List α):(∀ x∈l++m,p x)↔(∀ x∈l,p x)∧∀ x∈m,p x:=List.forall_mem_append
theorem rt {α:Type} {x r:α} {F G C p:Prop} (h:some x=some r) (f:F) (hcalm:C) (hO:G) (k:some x=some r→F→C→G→p:=by
  intro h hs hcalm hO
  apply BB;simp +decide only [go_sem,Nat.reduceAdd,hs]
  have hgt:=Option.some.inj h;subst hgt
  first | refine Rz hcalm rfl hO.pre (by simp +decide only [go_sem,Nat.reduceAdd]) ⟨?_,?_⟩ | refine Tq hcalm rfl hO.pre (by simp +decide only [go_sem,Nat.reduceAdd]) ⟨?_,?_⟩
  all_goals first | rfl | (simp +decide only [go_sem,Nat.reduceAdd,hs];done) | (simp +decide only [go_sem,Nat.reduceAdd,Vl.cs,Ty.cs,hs];done)):p:=k h f hcalm hO
theorem hv {p F:Prop} (f:F) (h:F→p:=by intro hs;first | rfl | (simp +decide only [go_sem,Nat.reduceAdd,hs];done) | (simp +decide only [go_sem,Nat.reduceAdd,Vl.cs,Ty.cs,hs];done)):p:=h f
theorem Ty.cs_eqs (t:Ty):t.cs=[Ak t.kind,Ak t.min,Ak t.max,Ak t.scale,.list (t.words.map JR) .none,.list (t.elem.map Ef) .none,.list (t.fields.map Gn) .none]:=by
 cases t;rw [Ty.cs,Vu,TG];rfl
theorem Vl.cs_eqs (v:Vl):v.cs=[Ak v.kind,Ak v.int,Ak v.scale,.val (.string v.text),.list (v.list.map B1) .none,.list (v.fields.map IC) .none]:=by
 rw [v.cs_eq,Oa,Wq]
theorem Qw (w0:World) (B:Ao) (Rw:Au) (L:As) (hT:Lib.Utf8Tabs 1 2 w0) (s:ByteArray) (hs:s.size≤maxLen) :
  ACalls Tryz.prog w0 115 [.val (.string s)] ⟨B,Rw,L⟩ fun v s'=>v = .val (.bool (Lib.validD s.data.toList))∧s'=⟨B,Rw,L⟩:=Zan w0 _ hT s hs
theorem Ks (w0:World) (B:Ao) (Rw:Au) (L:As) (a b:ByteArray) :
  ACalls Tryz.prog w0 64 [.val (.string a),.val (.string b)] ⟨B,Rw,L⟩ fun v s'=>v=Ak (Uu a b)∧s'=⟨B,Rw,L⟩:=V5 w0 _ a b
attribute [go_sem] Pj fillOk IK Nat.mul_one Nat.zero_add Nat.add_zero Option.isSome_some List.getElem?_cons_zero List.getElem?_cons_succ
abbrev ALp:Prop:=(∀ (α:Type) (l m:List α),List.append l m=l++m)∧(∀ (α:Type) (a:α) (l m:List α),(a::l)++m=a::(l++m))∧∀ (α:Type) (l:List α),[]++l=l
theorem al {F:Prop} (h:F):ALp∧F:=⟨⟨fun _ _ _=>rfl,fun _ _ _ _=>rfl,fun _ _=>rfl⟩,h⟩
theorem Vl.cs_mks (k i s:Int) (t:ByteArray) (l:List Vl) (f:List (ByteArray × Vl)):(Vl.mk k i s t l f).cs=[Ak k,Ak i,Ak s,.val (.string t),.list (l.map B1) .none,.list (f.map IC) .none]:=Vl.cs_eqs _
theorem Ty.cs_mks (a b c d:Int) (w:List ByteArray) (e:List Ty) (f:List (Int × ByteArray × Int × Ty × List Vl)):(Ty.mk a b c d w e f).cs=[Ak a,Ak b,Ak c,Ak d,.list (w.map JR) .none,.list (e.map Ef) .none,.list (f.map Gn) .none]:=Ty.cs_eqs _
theorem Ey {p:Prop} (h:p:=by first | rfl | simp only [List.length_append,List.length_cons,List.length_nil,List.length_map,Nat.zero_add,Nat.add_zero]):p:=h
theorem ls_ {p:Prop} (h:p:=by simp only [List.length_set]):p:=h
theorem kr {p:Prop} (h:p:=by kernel_rfl):p:=h
theorem px {p:Prop} (h:p:=by first | exact List.prefix_append _ _ | exact List.prefix_refl _):p:=h
theorem ap_ {p:Prop} (h:p:=by simp only [List.append_assoc,List.cons_append,List.nil_append]):p:=h
theorem nq {p:Prop} (h:p:=by first | assumption | omega | (simp only [List.length_set] at *; omega)):p:=h
theorem KU {p V:Prop} {Rw rows:List RowA} {l:List (Nat × Nat × Ev.Own)} {ho:Ev.Own} {v:List VE} (u:V) (hO:Owns Rw rows l ho v) (h:V→Rw.length≤rows.length→p:=by
  intro u hl
  (simp +decide only [go_sem,Nat.reduceAdd,HH])<;>(try (repeat' apply Ad))<;>first | omega | assumption | exact u _ _ _ (by omega) (by omega) (by omega)):p:=h u hO.len
theorem ln {p:Prop} {Rw rows Rw' rows':List RowA} {l l':List (Nat × Nat × Ev.Own)} {ho ho':Ev.Own} {v v':List VE} (h1:Owns Rw rows l ho v) (h2:Owns Rw' rows' l' ho' v') (h:Rw.length≤rows.length→Rw'.length≤rows'.length→p:=by intro _ _;first | exact Nat.le_refl _ | omega):p:=h h1.len h2.len
theorem dl {F p q:Prop} (m c1 c2:Nat) (L:List Nat) (f:F) {P:Program} (hm:P.follows .mixedOrders=true) {A K:Env→St→Prop} (hK:∀ e s,A e s→K e s) (k:q) (h:Tg (m,c1,c2,L)→F→P.follows .mixedOrders=true→(∀ e s,A e s→K e s)→q→p:=by
  intro tt hs hm hK hq
  refine To tt hm (by kernel_rfl) ?_
  rw [Ap];simp +decide only [go_sem,Nat.reduceAdd,hs]
  (repeat' with_reducible apply Ad)<;>first | (rw [Ap];simp +decide only [go_sem,Nat.reduceAdd,hs]) | (clear hq;exact cl)
  first | (refine hK _ _ ?_;exact hq) | ((repeat' apply Ad)<;>first | (refine hK _ _ ?_;exact hq) | (clear hq;exact cl))):p:=h tg f hm hK k
theorem dk {F p q:Prop} (m c1 c2:Nat) (L:List Nat) (f:F) {P:Program} (hm:P.follows .mixedOrders=true) (k:q) (h:Tg (m,c1,c2,L)→F→P.follows .mixedOrders=true→q→p:=by
  intro tt hs hm hq
  refine To tt hm (by kernel_rfl) ?_
  rw [Ap];simp +decide only [go_sem,Nat.reduceAdd,hs]
  first | (refine HM ?_;exact hq) | ((repeat' apply Ad)<;>first | (refine HM ?_;exact hq) | (clear hq;exact cl))):p:=h tg f hm k
theorem dn {F p q:Prop} (f:F) {A K:Env→St→Prop} (hK:∀ e s,A e s→K e s) (k:q) (h:F→(∀ e s,A e s→K e s)→q→p:=by
  intro hs hK hq
  rw [Ap];simp +decide only [go_sem,Nat.reduceAdd,hs]
  (repeat' with_reducible apply Ad)<;>first | (rw [Ap];simp +decide only [go_sem,Nat.reduceAdd,hs]) | (clear hq;exact cl)
  first | (refine hK _ _ ?_;exact hq) | ((repeat' apply Ad)<;>first | (refine hK _ _ ?_;exact hq) | (clear hq;exact cl))):p:=h f hK k
theorem rT {α:Type} {x r:α} {F G C p:Prop} (h:x=r) (f:F) (hcalm:C) (hO:G) (k:x=r→F→C→G→p:=by
  intro h hs hcalm hO
  apply BB;simp +decide only [go_sem,Nat.reduceAdd,hs]
  subst h
  first | refine Rz hcalm rfl hO.pre (by simp +decide only [go_sem,Nat.reduceAdd]) ⟨?_,rfl⟩ | refine Tq hcalm rfl hO.pre (by simp +decide only [go_sem,Nat.reduceAdd]) ⟨?_,rfl⟩
  first | rfl | (simp +decide only [go_sem,Nat.reduceAdd,hs];done) | (simp +decide only [go_sem,Nat.reduceAdd,Vl.cs,Ty.cs,hs];done)):p:=k h f hcalm hO
end Go.Proofs.YtcdnijfbfdnjlaaGreatDoor
namespace Go.Ev
open Go Go.RowKit Go.Shelf
section
variable {P:Program} {w0:World} {st:St}
theorem WJ {M:Mem} {w w':World} {e:TypeId} {sz:Nat} {v':Value} {n:Nat} {us:Nat→Value} {xs:List AV} (hst:RelSt w0 M st w) (hb:Below w.heap.size w w') (ho:w'.ownsRow w.heap.size e sz v' n (flat us n)) (hn:xs.length=n)
  (hus:∀ i,i<n→(us i).cells.size=sz) (hR:∀ i (hi:i<xs.length),R w0 M w (us i) xs[i]):∃ M',Ext w0 M w M' w'∧RelSt w0 M' st w'∧R w0 M' w' v' (.list xs .none):=by
 subst hn
 obtain ⟨k,f⟩:=ho
 rcases f with ⟨rfl,h0⟩ | ⟨g,cap,cur,rfl,hg,hcur,hc1,hc2,hc3,hc4⟩
 ·obtain ⟨c,b⟩:=hst.later hb w.heap.size 0 (Nat.le_refl _) (.inr rfl)
  have:xs=[]:=List.length_eq_zero_iff.1 h0
  subst this
  exact ⟨_,b,c,.nil (fun id=>by simp)⟩
 ·obtain ⟨c,b⟩:=hst.later hb g (xs.length*sz) hg (.inl (Array.getElem?_eq_some_iff.1 hcur).1)
  refine ⟨_,b,c,.list sz us hc1 hc2 (fun i hi=>⟨hus i hi,fun j d=>?_⟩) (fun i hi=>(hR i hi).mono b) trivial⟩
  have a:i*sz+j<xs.length*sz:=by
   have:(i+1)*sz≤xs.length*sz:=Nat.mul_le_mul_right _ hi
   rw [Nat.succ_mul] at this;omega
  refine ⟨.inr (by simp only [Mem.newTop,if_true,Nat.zero_add];exact a),?_⟩
  have h:=Hl hus i hi j d
  rw [←h,←hc4,List.getElem?_take_of_lt a,Array.getElem?_toList]
  simp [World.cell?,hcur]
theorem Xf {ρ:Ren} (L:Go.Proofs.SlLaysE0.n41 P ρ) (i0:TypeInfo) (z:Value) (size bytes:Nat) (hi:P.info? (ρ.t 23)=some i0) (hz0:i0.zero=some z) (hz1:i0.size=size) (hz2:i0.bytes=bytes) (hzs:z.cells.size=size) (hsz:0<size)
  (z23:∀ w,(Go.sizeOf (ρ.t 23)).run P w = .ok size w) (a:Addr) (c:Nat) (w:World) :
  Calls P (ρ.f 41) #[.slice (some a) 0 c] w fun e w'=>∃ v',e = .returned v'∧w'.ownsRow w.heap.size (ρ.t 23) size v' 0 []∧Below w.heap.size w w':=by
 have mixed:=L.mixed;have t4:=L.t4;have a4:=L.a4;have z4:=L.z4;have v4:=L.v4;have t22:=L.t22;have a22:=L.a22;have z22:=L.z22;have v22:=L.v22
 have q22:∀ (w:World) (a:Option Addr) (n c n' c':Nat),(binOp .eql (ρ.t 22) (.slice a n c) (.slice none n' c')).run P w = .ok (.bool a.isNone) w:=fun w a n c n' c'=>Lib.run_eql_slice_nil w _ _ a n c n' c' L.t22
 have u22:∀ w,Sem.run P (underlying (ρ.t 22)) w = .ok (TypeDesc.slice (ρ.t 23)) w:=run_underlying t22
 obtain ⟨_,_,FG⟩:=L.f41
 go_enter FG,Go.Proofs.SlBodyN.n41_ntmps ρ
 go_wp2_with (at_builtin;refine wpList_append_own _ rfl _ _ (ρ.t 22) rfl w.heap.size (ρ.t 23) i0 z size bytes t22 hi hz0 hz1 hz2 hzs hsz _ _ _ rfl (World.ownsRow_made w #[] 0 (Nat.le_refl _) (Nat.zero_le _) (by simp)) a 0 c [] rfl (by simp) (by intro j u hj;simp at hj) (by intro u hu;cases hu) (by unfold maxLen;omega) (by omega) (by simp) ?_)
 intro v' w1 hown hgrow hnil
 go_wp2
 go_ret
 exact ⟨v',rfl,by simpa using hown,((Below.refl _ w).alloc (Nat.le_refl _) _).grown hgrow (by simp) (by intro k hk;simp [Value.ownBlock] at hk;omega)⟩
theorem X8 {ρ:Ren} (L:Go.Proofs.SlLaysE0.n41 P ρ) (hen:IB P (ρ.f 41)) (i0:TypeInfo) (z:Value) (size bytes:Nat) (hi:P.info? (ρ.t 23)=some i0) (hz0:i0.zero=some z) (hz1:i0.size=size) (hz2:i0.bytes=bytes) (hzs:z.cells.size=size) (hsz:0<size)
  (z23:∀ w,(Go.sizeOf (ρ.t 23)).run P w = .ok size w) {xs:List AV} {o:Own} (hx:∀ y∈xs,y.cells.length=size) (h1:∀ y∈xs,AA y=true) (hbig:xs.length*bytes≤140737488355328) :
  ACalls P w0 (ρ.f 41) [.list xs o] st fun r s=>r = .list xs .none∧s=st:=by
 refine ⟨hen,fun M w q l h=>?_⟩
 obtain ⟨v,rfl⟩:∃ v,q = #[v]:=by
  have:=h.1
  simp only [List.length_cons,List.length_nil] at this
  exact Array.size_eq_one_iff.1 this
 have hv:R w0 M w v (.list xs o):=h.2 0 (by simp) (by simp)
 cases hv with
 | nil ho =>
  refine (Go.Proofs.AnyE.slices_Clone_nil L 0 0 w).mono ?_
  rintro en N ⟨rfl,rfl⟩
  exact ⟨_,M,_,st,rfl,⟨rfl,rfl⟩,.refl _ _ _,l,.nil (fun id=>by simp)⟩
 | @emp ad _ ho =>
  refine (Xf L i0 z size bytes hi hz0 hz1 hz2 hzs hsz z23 ad 0 w).mono ?_
  rintro en N ⟨E,rfl,c,a⟩
  obtain ⟨M',K,G,C⟩:=WJ (xs:=[]) (us:=fun _=>undef) l a c rfl (fun i hi=>absurd hi (by omega)) (fun i hi=>absurd hi (by simp))
  exact ⟨E,M',_,st,rfl,⟨rfl,rfl⟩,K,G,C⟩
 | @list b off cap _ _ sz us hc hm hcell hu ho =>
  have d:∀ i,i<xs.length→(us i).cells.size=size:=fun i hi=>by
   rw [((hu i hi).cells).1];exact hx _ (List.getElem_mem _)
  have g:∀ i,i<xs.length→∀ j,j<size→w.cell? ⟨b,off+i*size+j,none⟩=(us i).cells[j]? := fun i hi j D=>by
   have e:sz=size:=((hcell i hi).1).symm.trans (d i hi)
   subst e
   exact ((hcell i hi).2 j D).2
  refine (Go.Proofs.AnyE.slices_Clone L i0 z size bytes hi hz0 hz1 hz2 hzs hsz z23 b off xs.length cap (flat us xs.length) w (AM d) (Nat.le_trans hc hm) hbig (fun j u D=>?_) (fun u F=>?_)).mono ?_
  ·have:=EV d hsz g j u D
   rwa [DU] at this
  ·obtain ⟨i,x,J⟩:=List.mem_flatMap.1 F
   have m:i<xs.length:=by simpa using x
   obtain ⟨k,O,rfl⟩:=List.mem_iff_getElem.1 J
   have n:=(hu i m).cells
   have p:k<(us i).cells.size:=by simpa using O
   have:=n.2 k p (by rw [←n.1];exact p)
   rw [Array.getElem_toList]
   refine this.oneCell ((hu i m).cellsOne (fun vs H=>?_) _ (List.getElem_mem _))
   have:=h1 _ (List.getElem_mem m)
   rw [H] at this;cases this
  ·rintro en N ⟨E,rfl,c,_,a⟩
   obtain ⟨M',K,G,C⟩:=WJ l a c rfl d hu
   exact ⟨E,M',_,st,rfl,⟨rfl,rfl⟩,K,G,C⟩
def YR (P:Program) (t:TypeId) (size bytes:Nat):Bool :=
 match P.info? t with
 | some i=>(i.size == size)&&(i.bytes == bytes)&&(match i.zero with | some z=>z.cells.size == size | none=>false)
 | none=>false
theorem Rm {t:TypeId} {size bytes:Nat} (h:YR P t size bytes=true):∃ i0 z,P.info? t=some i0∧i0.zero=some z∧i0.size=size∧i0.bytes=bytes∧z.cells.size=size:=by
 unfold YR at h
 cases hi:P.info? t with
 | none=>simp [hi] at h
 | some i =>
  simp only [hi,Bool.and_eq_true,beq_iff_eq] at h
  cases hz:i.zero with
  | none=>simp [hz] at h
  | some z =>
   simp only [hz,beq_iff_eq] at h
   exact ⟨i,z,rfl,hz,h.1.1,h.1.2,h.2⟩
theorem W5 {ρ:Ren} (L:Go.Proofs.SlLaysE0.n41 P ρ) (hen:IB P (ρ.f 41)) (size bytes:Nat) (hi:YR P (ρ.t 23) size bytes=true) (hsz:0<size) (z23:∀ w,(Go.sizeOf (ρ.t 23)).run P w = .ok size w) {xs:List AV} {o:Own}
  (hx:∀ y∈xs,y.cells.length=size∧AA y=true) (hbig:xs.length*bytes≤140737488355328):ACalls P w0 (ρ.f 41) [.list xs o] st fun r s=>r = .list xs .none∧s=st:=by
 obtain ⟨b,z,a1,a2,a3,a4,a5⟩:=Rm hi
 exact X8 L hen b z size bytes a1 a2 a3 a4 a5 hsz z23 (fun y a=>(hx y a).1) (fun y a=>(hx y a).2) hbig
end
def La (n:Nat) (rows:Au):Own:=if n=0 then .full else .row rows.length
def OL (n sz:Nat) (rows:Au):List RowA:=if n=0 then rows else rows++[.grow n sz]
theorem Owns.len1 {Rw rows:List RowA} {o ho:Own} {sz n m:Nat} (h:Owns Rw rows [(sz,n,o)] ho) (e:n=m):Owns Rw rows [(sz,m,o)] ho:=e▸h
section
variable {P:Program} {w0:World} {st:St} {M:Mem} {w:World}
theorem RelSt.adoptRow (h:RelSt w0 M st w) {w':World} (hb:Below w.heap.size w w') {g cap k sz:Nat} {cs:Array Value} {ty:TypeId} (hg:w.heap.size≤g) (hcs:w'.heap[g]? = some (.cells cs ty (0,0))) (hm:cap≤maxLen) (hk:k≤cap) (hs:cs.size=cap*sz) :
  RelSt w0 (M.addRow g cap k sz (k*sz)) { st with rows:=st.rows++[.grow k sz] } w'∧Ext w0 M w (M.addRow g cap k sz (k*sz)) w':=by
 have Z:g<w'.heap.size:=(Array.getElem?_eq_some_iff.1 hcs).1
 have f:∀ b,b<w.heap.size→(M.addRow g cap k sz (k*sz)).top b=M.top b:=fun b hb=>by simp [Mem.addRow];omega
 have z:∀ x,x<w.heap.size→w'.heap[x]? = w.heap[x]? := hb.block
 have t:KeepsObj w w':=fun x o m _=>(z x (Array.getElem?_eq_some_iff.1 m).1).trans m
 have a:∀ i,i<M.NR→(M.addRow g cap k sz (k*sz)).fr i=M.fr i∧(M.addRow g cap k sz (k*sz)).blk i=M.blk i∧(M.addRow g cap k sz (k*sz)).cap i=M.cap i∧(M.addRow g cap k sz (k*sz)).rsz i=M.rsz i:=by
  intro i n
  have:¬ i=M.NR:=by omega
  simp [Mem.addRow,this]
 have C:Ext w0 M w (M.addRow g cap k sz (k*sz)) w' :=
  ⟨Nat.le_refl _,fun _ _=>rfl,Nat.le_succ _,fun i n=>by obtain ⟨a1,a2,a3,a4⟩:=a i n;exact ⟨by omega,fun _=>⟨a2,a3,a4⟩⟩,fun x Y v n D=>by
   have d:=World.block_lt_of_cell? w _ D
   refine ⟨?_,n.imp id fun q=>by rw [f x d];exact q⟩
   unfold World.cell? at D ⊢
   simp only [z x d] at D ⊢
   exact D,hb.size,Nat.le_refl _,fun _ _=>rfl,fun _ m r=>absurd r (Nat.not_lt.2 m),fun x o m r _=>t x o m r,fun b q1 q=>⟨z b q1,⟨q.1,fun i n=>by
    by_cases c:i=M.NR
    ·subst c;simp only [Mem.addRow,if_true];omega
    ·have s:i<M.NR:=by simp only [Mem.addRow] at n;omega
     rw [(a i s).2.1];exact q.2.1 i s,q.2.2⟩,f b q1⟩⟩
 have E:∀ l,l<M.N→M.bx l≠g:=fun l G=>by have:=h.box_lt G;omega
 refine ⟨⟨h.below.trans (hb.mono h.base_le),h.N,by simp [Mem.addRow,h.NR],fun b U=>?_,h.inj,fun l c G=>?_,fun id y hid=>?_,fun i j n V e=>?_,h.loop.mono C rfl t⟩,C⟩
 ·have:=hb.size
  have:(M.addRow g cap k sz (k*sz)).top b=M.top b:=by simp [Mem.addRow];omega
  rw [this]
  exact h.top b (by omega)
 ·obtain ⟨a1,a2,O,F,a3,a4,a5,a6⟩:=h.box l c G
  have d:=(Array.getElem?_eq_some_iff.1 a3).1
  exact ⟨a1,by rw [show (M.addRow g cap k sz (k*sz)).bx l=M.bx l from rfl,f _ d];exact a2,O,F,by rw [show (M.addRow g cap k sz (k*sz)).bx l=M.bx l from rfl,z _ d];exact a3,a4,a5,fun i m r=>(a6 i m r).mono C⟩
 ·by_cases e1:id=M.NR
  ·subst e1
   simp only [h.NR,List.getElem?_concat_length,Option.some.injEq] at hid
   subst hid
   have q:(M.addRow g cap k sz (k*sz)).fr M.NR=k∧(M.addRow g cap k sz (k*sz)).blk M.NR=g∧(M.addRow g cap k sz (k*sz)).cap M.NR=cap∧(M.addRow g cap k sz (k*sz)).rsz M.NR=sz∧(M.addRow g cap k sz (k*sz)).top g=k*sz:=by simp [Mem.addRow]
   obtain ⟨q1,q2,q3,q4,q5⟩:=q
   simp only [RowOk,q1,q2,q3,q4,q5]
   have aa:=h.base_le
   exact ⟨trivial,trivial,by omega,trivial,E,hm,hk,cs,ty,hcs,hs⟩
  ·have p:id<M.NR:=by
    have:id<(st.rows++[RowA.grow k sz]).length:=(Aj.1 hid).1
    have H:=h.NR
    simp at this
    omega
   rw [List.getElem?_append_left (by rw [←h.NR];exact p)] at hid
   have hk:=h.row id y hid
   obtain ⟨J,o2,K,Q⟩:=a id p
   exact hk.keep C J Q o2 K (f _ hk.lt) hk.ne (z _ hk.lt)
 ·have H:(M.addRow g cap k sz (k*sz)).NR=M.NR+1:=rfl
  rw [H] at n V
  have u:(M.addRow g cap k sz (k*sz)).blk M.NR=g:=by simp [Mem.addRow]
  by_cases e1:i=M.NR
  ·by_cases e2:j=M.NR
   ·omega
   ·subst e1
    rw [u,(a j (by omega)).2.1] at e
    have:=h.row_lt (i:=j) (by omega)
    omega
  ·by_cases e2:j=M.NR
   ·subst e2
    rw [u,(a i (by omega)).2.1] at e
    have:=h.row_lt (i:=i) (by omega)
    omega
   ·rw [(a i (by omega)).2.1,(a j (by omega)).2.1] at e
    exact h.rowinj i j (by omega) (by omega) e
theorem own_row {w':World} {e:TypeId} {sz:Nat} {v':Value} {n:Nat} {us:Nat→Value} {xs:List AV} (hst:RelSt w0 M st w) (hb:Below w.heap.size w w') (ho:w'.ownsRow w.heap.size e sz v' n (flat us n)) (hn:xs.length=n) (h0:n≠0)
  (hus:∀ i,i<n→(us i).cells.size=sz) (hR:∀ i (hi:i<xs.length),R w0 M w (us i) xs[i]):∃ M',Ext w0 M w M' w'∧RelSt w0 M' { st with rows:=st.rows++[.grow n sz] } w'∧R w0 M' w' v' (.list xs (.row st.rows.length)):=by
 subst hn
 obtain ⟨l,f⟩:=ho
 rcases f with ⟨rfl,h0'⟩ | ⟨g,cap,cur,rfl,hg,hcur,hc1,hc2,hc3,hc4⟩
 ·exact absurd h0' h0
 ·obtain ⟨h,c⟩:=hst.adoptRow hb hg hcur hc2 hc1 hc3
  have b:=hst.NR
  refine ⟨_,c,h,.list sz us hc1 hc2 (fun i hi=>⟨hus i hi,fun j d=>?_⟩) (fun i hi=>(hR i hi).mono c) ⟨by simp [Mem.addRow,b],by simp [Mem.addRow,b],fun _=>by simp [Mem.addRow,b]⟩⟩
  have a:i*sz+j<xs.length*sz:=by
   have:(i+1)*sz≤xs.length*sz:=Nat.mul_le_mul_right _ hi
   rw [Nat.succ_mul] at this;omega
  refine ⟨.inr (by simp only [Mem.addRow,if_true,Nat.zero_add];exact a),?_⟩
  have k:=Hl hus i hi j d
  rw [←k,←hc4,List.getElem?_take_of_lt a,Array.getElem?_toList]
  simp [World.cell?,hcur]
theorem Yv {ρ:Ren} (L:Go.Proofs.SlLaysE0.n41 P ρ) (i0:TypeInfo) (size:Nat) (hi:P.info? (ρ.t 23)=some i0) (hz1:i0.size=size) (z23:∀ w,(Go.sizeOf (ρ.t 23)).run P w = .ok size w) (a:Addr) (c:Nat) (w:World) :
  Calls P (ρ.f 41) #[.slice (some a) 0 c] w fun e w'=>∃ b,e = .returned (.slice (some b) 0 0)∧Below w.heap.size w w':=by
 have mixed:=L.mixed;have t4:=L.t4;have a4:=L.a4;have z4:=L.z4;have v4:=L.v4;have t22:=L.t22;have a22:=L.a22;have z22:=L.z22;have v22:=L.v22
 have q22:∀ (w:World) (a:Option Addr) (n c n' c':Nat),(binOp .eql (ρ.t 22) (.slice a n c) (.slice none n' c')).run P w = .ok (.bool a.isNone) w:=fun w a n c n' c'=>Lib.run_eql_slice_nil w _ _ a n c n' c' L.t22
 have u22:∀ w,Sem.run P (underlying (ρ.t 22)) w = .ok (TypeDesc.slice (ρ.t 23)) w:=run_underlying t22
 have hgo:∀ (w:World) (ty:TypeId) (ad:Addr),(Builtin.append_ #[ρ.t 22,ρ.t 22] ty #[.slice (some ad) 0 0,.slice (some a) 0 c]).run P w = .ok (.slice (some ad) 0 0) w:=fun w ty ad=>by
  simp [Builtin.append_,run_underlying t22,sizeOf,typeInfo,hi,hz1,storeCells,Builtin.lenOf,Builtin.firstCells,loadCells,loadCellsFrom]
 obtain ⟨_,_,FG⟩:=L.f41
 go_enter FG,Go.Proofs.SlBodyN.n41_ntmps ρ
 go_wp2_with (at_builtin;refine Lib.wpList_append_run _ rfl _ _ (ρ.t 22) (ρ.t 22) rfl _ _ rfl rfl _ _ (hgo _ _ _) ?_)
 go_wp2
 go_ret
 exact ⟨_,rfl,(Below.refl _ w).alloc (Nat.le_refl _) _⟩
theorem OK {ρ:Ren} (L:Go.Proofs.SlLaysE0.n41 P ρ) (hen:IB P (ρ.f 41)) (size bytes:Nat) (hinf:YR P (ρ.t 23) size bytes=true) (hsz:0<size) (z23:∀ w,(Go.sizeOf (ρ.t 23)).run P w = .ok size w) {xs:List AV} {o:Own}
  (hx:∀ y∈xs,y.cells.length=size∧AA y=true) (hbig:xs.length*bytes≤140737488355328) :
  ACalls P w0 (ρ.f 41) [.list xs o] st fun r s=>r = .list xs (La xs.length st.rows)∧s={ st with rows:=OL xs.length size st.rows }:=by
 obtain ⟨i0,z,m,U,E,N,Z⟩:=Rm hinf
 refine ⟨hen,fun M w H p n=>?_⟩
 obtain ⟨v,rfl⟩:∃ v,H = #[v]:=by
  have:=n.1
  simp only [List.length_cons,List.length_nil] at this
  exact Array.size_eq_one_iff.1 this
 have hv:R w0 M w v (.list xs o):=n.2 0 (by simp) (by simp)
 have l:∀ (a:Addr) (c:Nat),xs=[]→Calls P (ρ.f 41) #[.slice (some a) 0 c] w fun en D=>∃ v M' r st',en = .returned v∧(r = .list xs (La xs.length st.rows)∧st'={ st with rows:=OL xs.length size st.rows })∧Ext w0 M w M' D∧RelSt w0 M' st' D∧R w0 M' D v r:=fun a c hxs=>by
  subst hxs
  refine (Yv L i0 size m E z23 a c w).mono ?_
  rintro en D ⟨b,rfl,d⟩
  obtain ⟨r1,r2⟩:=p.later d w.heap.size 0 (Nat.le_refl _) (.inr rfl)
  exact ⟨_,_,_,st,rfl,⟨rfl,rfl⟩,r2,r1,.emp (fun id=>by simp [La])⟩
 cases hv with
 | nil ho =>
  refine (Go.Proofs.AnyE.slices_Clone_nil L 0 0 w).mono ?_
  rintro en D ⟨rfl,rfl⟩
  exact ⟨_,M,_,st,rfl,⟨rfl,rfl⟩,.refl _ _ _,p,.nil (fun id=>by simp [La])⟩
 | @emp ad _ ho=>exact l ad 0 rfl
 | @list b off cap _ _ sz us hc hm hcell hu ho =>
  by_cases h0:xs=[]
  ·have:=l ⟨b,off,none⟩ cap h0
   rw [h0]
   rw [h0] at this
   exact this
  have C:xs.length≠0:=fun q=>h0 (List.length_eq_zero_iff.1 q)
  have g:∀ i,i<xs.length→(us i).cells.size=size:=fun i m=>by
   rw [((hu i m).cells).1];exact (hx _ (List.getElem_mem _)).1
  have h:∀ i,i<xs.length→∀ j,j<size→w.cell? ⟨b,off+i*size+j,none⟩=(us i).cells[j]? := fun i m j O=>by
   have e:sz=size:=((hcell i m).1).symm.trans (g i m)
   subst e
   exact ((hcell i m).2 j O).2
  refine (Go.Proofs.AnyE.slices_Clone L i0 z size bytes m U E N Z hsz z23 b off xs.length cap (flat us xs.length) w (AM g) (Nat.le_trans hc hm) hbig (fun j u O=>?_) (fun u Q=>?_)).mono ?_
  ·have:=EV g hsz h j u O
   rwa [DU] at this
  ·obtain ⟨i,K,Y⟩:=List.mem_flatMap.1 Q
   have x:i<xs.length:=by simpa using K
   obtain ⟨k,hk,rfl⟩:=List.mem_iff_getElem.1 Y
   have F:=(hu i x).cells
   have G:k<(us i).cells.size:=by simpa using hk
   have:=F.2 k G (by rw [←F.1];exact G)
   rw [Array.getElem_toList]
   refine this.oneCell ((hu i x).cellsOne (fun vs V=>?_) _ (List.getElem_mem _))
   have:=(hx _ (List.getElem_mem x)).2
   rw [V] at this;cases this
  ·rintro en D ⟨v',rfl,J,_,d⟩
   obtain ⟨M',x1,x2,x3⟩:=own_row p d J rfl C g hu
   refine ⟨v',M',_,_,rfl,⟨rfl,rfl⟩,x1,?_,?_⟩
   ·rw [OL,Ai C];exact x2
   ·rw [La,Ai C];exact x3
end
end Go.Ev
namespace Go.Proofs.YtcdnijfbfdnjlaaGreatDoor
open Go Go.RowKit Go.Ev
def Hw:Go.Shelf.Ren:=⟨fun | 41=>88 | n=>n,fun | 22=>32 | 23=>3 | 4=>4 | n=>n,fun | n=>n⟩
theorem Jm:Go.Proofs.SlLaysE0.n41 Tryz.prog Hw:={
 mixed:=by kernel_rfl
 f41:=⟨Tryz.f88.name,by decide,Tryz.func88.trans (congrArg some (by kernel_rfl))⟩
 t4:=Tryz.underlying4
 a4:=Tryz.isAgg4
 z4:=Tryz.sizeOf4
 v4:=Tryz.zeroValue4
 t22:=Tryz.underlying32
 a22:=Tryz.isAgg32
 z22:=Tryz.sizeOf32
 v22:=Tryz.zeroValue32 }
theorem KI (w0:World) (B:Ao) (Rw:Au) (L:As) (l:List Int) (h:l.length*8≤140737488355328) :
  ACalls Tryz.prog w0 88 [.list (l.map AU) .none] ⟨B,Rw,L⟩ fun r s=>r = .list (l.map AU) .none∧s=⟨B,Rw,L⟩ :=
 W5 (ρ:=Hw) Jm (A0 Tryz.func88 rfl (by decide)) 1 8 (by kernel_rfl) (by decide) Tryz.sizeOf3 (by simp +decide only [go_sem]) (by rw [List.length_map];exact h)
theorem Ol (w0:World) (B:Ao) (Rw:Au) (L:As) (l:List Int) (h:l.length*8≤140737488355328) :
  ACalls Tryz.prog w0 88 [.list (l.map AU) .none] ⟨B,Rw,L⟩ fun r s=>r = .list (l.map AU) (La l.length Rw)∧s=⟨B,OL l.length 1 Rw,L⟩:=by
 have:=OK (P:=Tryz.prog) (w0:=w0) (st:=⟨B,Rw,L⟩) (o := .none) (xs:=l.map AU) (ρ:=Hw) Jm (A0 Tryz.func88 rfl (by decide)) 1 8 (by kernel_rfl) (by decide) Tryz.sizeOf3 (by simp +decide only [go_sem]) (by rw [List.length_map];exact h)
 rw [List.length_map] at this
 exact this
def IL:Go.Shelf.Ren:=⟨fun | 41=>92 | n=>n,fun | 22=>46 | 23=>49 | 4=>4 | n=>n,fun | n=>n⟩
theorem MA:Go.Proofs.SlLaysE0.n41 Tryz.prog IL:={
 mixed:=by kernel_rfl
 f41:=⟨Tryz.f92.name,by decide,Tryz.func92.trans (congrArg some (by kernel_rfl))⟩
 t4:=Tryz.underlying4
 a4:=Tryz.isAgg4
 z4:=Tryz.sizeOf4
 v4:=Tryz.zeroValue4
 t22:=Tryz.underlying46
 a22:=Tryz.isAgg46
 z22:=Tryz.sizeOf46
 v22:=Tryz.zeroValue46 }
theorem MN (w0:World) (B:Ao) (Rw:Au) (L:As) (l:List Vl) (h:l.length*88≤140737488355328) :
  ACalls Tryz.prog w0 92 [.list (l.map B1) .none] ⟨B,Rw,L⟩ fun r s=>r = .list (l.map B1) (La l.length Rw)∧s=⟨B,OL l.length 6 Rw,L⟩:=by
 have:=OK (P:=Tryz.prog) (w0:=w0) (st:=⟨B,Rw,L⟩) (o := .none) (xs:=l.map B1) (ρ:=IL) MA (A0 Tryz.func92 rfl (by decide)) 6 88 (by kernel_rfl) (by decide) Tryz.sizeOf49 (by simp +decide only [go_sem]) (by rw [List.length_map];exact h)
 rw [List.length_map] at this
 exact this
def H4:Go.Shelf.Ren:=⟨fun | 41=>349 | n=>n,fun | 22=>22 | 23=>9 | 4=>4 | n=>n,fun | n=>n⟩
theorem LK:Go.Proofs.SlLaysE0.n41 Tryz.prog H4:={
 mixed:=by kernel_rfl
 f41:=⟨Tryz.f349.name,by decide,Tryz.func349.trans (congrArg some (by kernel_rfl))⟩
 t4:=Tryz.underlying4
 a4:=Tryz.isAgg4
 z4:=Tryz.sizeOf4
 v4:=Tryz.zeroValue4
 t22:=Tryz.underlying22
 a22:=Tryz.isAgg22
 z22:=Tryz.sizeOf22
 v22:=Tryz.zeroValue22 }
theorem Md (w0:World) (B:Ao) (Rw:Au) (L:As) (l:List ByteArray) (h:l.length*16≤140737488355328) :
  ACalls Tryz.prog w0 349 [.list (l.map JR) .none] ⟨B,Rw,L⟩ fun r s=>r = .list (l.map JR) (La l.length Rw)∧s=⟨B,OL l.length 1 Rw,L⟩:=by
 have:=OK (P:=Tryz.prog) (w0:=w0) (st:=⟨B,Rw,L⟩) (o := .none) (xs:=l.map JR) (ρ:=H4) LK (A0 Tryz.func349 rfl (by decide)) 1 16 (by kernel_rfl) (by decide) Tryz.sizeOf9 (by simp +decide only [go_sem]) (by rw [List.length_map];exact h)
 rw [List.length_map] at this
 exact this
end Go.Proofs.YtcdnijfbfdnjlaaGreatDoor
namespace Go.Ev
open Go Go.RowKit Go.Shelf Go.Sort Go.Proofs
theorem YM {α β:Type} {f:α→List β} {sz:Nat}:∀ {xs:List α},(∀ x∈xs,(f x).length=sz)→(xs.flatMap f).length=xs.length*sz
 | [],_=>by simp
 | x::xs,h=>by
  rw [List.flatMap_cons,List.length_append,h x (List.mem_cons_self ..),YM (fun y a=>h y (List.mem_cons_of_mem _ a)),List.length_cons,Nat.succ_mul,Nat.add_comm]
abbrev cbL:List UInt8→List UInt8→Int:=Lib.compareBytes
theorem YE:∀ a,cbL a a=0
 | []=>rfl
 | x::a=>by simp only [cbL,Lib.compareBytes,UInt8.lt_irrefl,if_false];exact YE a
structure VOne (Rw rows:Au) (sz:Nat) (xs:List AV) (x:AV):Prop where
 pre:Rw <+: rows
 calm:∀ r∈rows.drop Rw.length,∀ y∈r.cells,∀ a b c,Under a b c y
 at_:(xs=[]∧x = .list [] .seed)∨∃ id ver,x = .vec id ver 0 xs.length∧0<xs.length∧Rw.length≤id∧rows[id]? = some (.vec ver sz (xs.flatMap AV.cells))
theorem VOne.none (Rw:Au) (sz:Nat):VOne Rw Rw sz [] (.list [] .seed):=⟨List.prefix_refl _,by simp,.inl ⟨rfl,rfl⟩⟩
theorem VOne.of_eq {Rw rows:List RowA} {sz:Nat} {xs ys:List AV} {x:AV} (h:VOne Rw rows sz xs x) (he:xs=ys):VOne Rw rows sz ys x:=he▸h
theorem VOne.len {Rw rows:List RowA} {sz:Nat} {xs:List AV} {x:AV} (h:VOne Rw rows sz xs x):Rw.length≤rows.length:=h.pre.length_le
theorem VOne.under {Rw rows:List RowA} {sz:Nat} {xs:List AV} {x:AV} (h:VOne Rw rows sz xs x) (nb nl:Nat):Under nb rows.length nl x:=by
 rcases h.at_ with ⟨_,rfl⟩ | ⟨id,ver,rfl,_,_,h3⟩
 ·exact .list (by simp) trivial
 ·exact .vec (Aj.1 h3).1
theorem VOne.cell {Rw rows:List RowA} {sz:Nat} {xs:List AV} {x:AV} (h:VOne Rw rows sz xs x):x.cells=[x]∧AA x=true∧x.pubCell.pubCell=x.pubCell:=by
 rcases h.at_ with ⟨_,rfl⟩ | ⟨id,ver,rfl,_,_,h3⟩<;>exact ⟨rfl,rfl,rfl⟩
theorem VOne.append {P:Program} {t el:TypeId} {sz by8:Nat} {ag:Bool} {Rw rows:List RowA} {xs:List AV} {x y:AV} (h:VOne Rw rows sz xs x) (he:GT P t=some (el,sz,ag,by8)) (hz:(AZ P el).isSome=true) (hs:0<sz)
  (hb:(xs.length+1)*by8≤140737488355328) (hb2:xs.length+1≤4611686018427387904) (hy:y.cells.length=sz∧AA y=true) (hp:y.pub=y) (hu:∀ c∈y.cells,∀ a b d,Under a b d c) (hxs:∀ z∈xs,z.cells.length=sz) :
  ∃ x' rows',VOne Rw rows' sz (xs++[y]) x'∧∀ (B:Ao) (L:As) (o2:Own),evAppend P ⟨B,rows,L⟩ t x (.list [y] o2)=(True,x',⟨B,rows',L⟩):=by
 have i:=h.len
 have g:appendOb P el sz by8 xs.length [y]=True:=by
  simp only [appendOb,hs,hz,List.length_singleton,hb,hb2,true_and,List.mem_singleton,forall_eq,hy,and_self]
 rcases h.at_ with ⟨rfl,rfl⟩ | ⟨id,ver,rfl,h1,h2,h3⟩
 ·refine ⟨.vec rows.length 0 0 1,rows++[.vec 0 sz y.cells],⟨h.pre.trans (List.prefix_append _ _),fun r hr z hz' a b c=>?_,.inr ⟨rows.length,0,rfl,by simp,i,by simp⟩⟩,fun B L o2=>?_⟩
  ·rw [List.drop_append_of_le_length i] at hr
   rcases List.mem_append.1 hr with hr | hr
   ·exact h.calm r hr z hz' a b c
   ·simp only [List.mem_singleton] at hr;subst hr;exact hu z hz' a b c
  ·simp only [evAppend,he,AO,BA,List.length_singleton,List.length_nil,List.flatMap_cons,List.flatMap_nil,List.append_nil,hp]
   rw [show appendOb P el sz by8 0 [y]=True from g]
   simp
 ·have f:=(Aj.1 h3).1
  have e:(xs.flatMap AV.cells).length=xs.length*sz:=YM hxs
  refine ⟨.vec id (ver+1) 0 (xs.length+1),rows.set id (.vec (ver+1) sz (xs.flatMap AV.cells++y.cells)),⟨UV h.pre h2 _,fun r hr z hz' a b c=>?_,.inr ⟨id,ver+1,by rw [List.length_append];rfl,by simp,h2,by simp [f,List.flatMap_append]⟩⟩,fun B L o2=>?_⟩
  ·rw [List.drop_set,Aa] at hr
   rcases List.mem_or_eq_of_mem_set hr with hr | rfl
   ·exact h.calm r hr z hz' a b c
   ·rcases List.mem_append.1 hz' with q | q
    ·exact h.calm (.vec ver sz (xs.flatMap AV.cells)) (by
      rw [List.mem_iff_getElem?]
      exact ⟨id-Rw.length,by rw [List.getElem?_drop,Nat.add_sub_cancel' h2];exact h3⟩) z q a b c
    ·exact hu z q a b c
  ·simp only [evAppend,he,AO,BA,List.length_singleton,List.flatMap_cons,List.flatMap_nil,List.append_nil,hp,CN,h3,if_true]
   rw [g]
   simp only [e,true_and,Nat.le_refl,and_self,Prod.mk.injEq,true_and,List.take_of_length_le (Nat.le_of_eq e)]
end Go.Ev
namespace Go.Proofs.YtcdnijfbfdnjlaaGreatDoor
open Go Go.RowKit Go.Ev Go.Shelf Go.Sort Go.Lib
def L0:String:=(Rows.sagaChecksRow.laid.map (·.1)).getD 2 default
abbrev Pow10 (w:World):Prop:=Lib.TabIs Tryz.prog w L0 .u64 Lib.pow10Tab
theorem Pow10.below {w0 w:World} (h:Pow10 w0) (hb:Below w0.heap.size w0 w):Pow10 w:=by
 unfold Pow10 Lib.TabIs World.var? at *
 cases hg:Tryz.prog.globalNamed L0 with
 | none=>rw [hg] at h;cases h
 | some g =>
  rw [hg] at h
  simp only [Ae] at h ⊢
  cases hx:w0.heap[g]? with
  | none=>rw [hx] at h;cases h
  | some o =>
   rw [hb.block g (Array.getElem?_eq_some_iff.1 hx).1]
   exact h
theorem Re (u:Nat):Lib.nDigits u≤u / 10+1:=by
 induction u using Nat.strongRecOn with
 | _ u ih =>
  by_cases h:u<10
  ·rw [Lib.nDigits_small h];omega
  ·rw [Lib.nDigits_big h]
   have:=ih (u / 10) (by omega)
   omega
theorem Zaa (n:Int) (h : -9223372036854775808≤n∧n≤9223372036854775807):(Lib.itoa n).length≤maxLen:=by
 unfold Lib.itoa maxLen
 split
 ·rw [List.length_cons,Lib.decDigits_length];have:=Re n.natAbs;omega
 ·rw [Lib.decDigits_length];have:=Re n.toNat;omega
theorem ZcI (w0:World) (B:Ao) (Rw:Au) (L:As) (hP:Pow10 w0) (n:Int) (hn : -9223372036854775808≤n∧n≤9223372036854775807) :
  ACalls Tryz.prog w0 86 [Ak n] ⟨B,Rw,L⟩ fun v s'=>v = .val (.string ⟨(Lib.itoa n).toArray⟩)∧s'=⟨B,Rw,L⟩ :=
 FX (A0 Tryz.func86 rfl (by decide)) (by
  show decide ((Lib.itoa n).toArray.size≤maxLen)=true
  rw [List.size_toArray]
  exact Ag (Zaa n hn)) fun M w b f a=>by
  have:=JK (us:=[.int .i64 n]) a
  subst this
  refine (Any.strconv_Itoa Tryz.laysM171 n hn.1 hn.2 w (hP.below f)).mono ?_
  rintro e g ⟨rfl,k,c,rfl⟩
  refine ⟨rfl,rfl,rfl,rfl,by simp [grow],fun i d=>?_⟩
  show (grow (w.drewN k) c).heap[i]? = w.heap[i]?
  rw [heap_grow_old (w.drewN k) c d]
  rfl
end Go.Proofs.YtcdnijfbfdnjlaaGreatDoor
namespace Go.Proofs.YtcdnijfbfdnjlaaGreatDoor
open Go Go.RowKit Go.Ev
theorem tgh {α β:Type} {a:α} {b:β} (h:Tg (a,b)):Tg a:=trivial
theorem tgt {α β:Type} {a:α} {b:β} (h:Tg (a,b)):Tg b:=trivial
theorem bI2 {α β:Type} {o:Option α} {x:α} {f:α→Option β} {r:β} {p:Prop} (hx:o=some x) (k:f x=some r→p):o.bind f=some r→p:=fun h=>by
 rw [hx] at h
 exact k h
theorem bI {α β:Type} {o:Option α} {f:α→Option β} {r:β} {p:Prop} (k:∀ y,o=some y→f y=some r→p):o.bind f=some r→p:=fun h=>by
 obtain ⟨y,a,b⟩:=bind_some h
 exact k y a b
theorem gI {β:Type} {c:Prop} [Decidable c] {x:Option β} {r:β} {p:Prop} (k:c→x=some r→p):(if c then x else none)=some r→p:=fun h=>by
 obtain ⟨a,b⟩:=An h
 exact k a b
theorem xI {α β:Type} {l:List α} {i:Int} {F:α→Option β} {r:β} {A p:Prop} (a:A) (k:∀ x,0≤i→i<l.length→((∀ g:α→AV,(l.map g).getD i.toNat .junk=g x)∧(∀ (g:α→AV) (j:Nat),i=(j:Int)→(l.map g).getD j .junk=g x)∧A)→F x=some r→p):(EA l i).bind F=some r→p:=fun h=>by
 obtain ⟨x,d,h⟩:=bind_some h
 obtain ⟨a1,b,c⟩:=Fq d
 exact k x a1 b ⟨fun g=>Fe c,fun g j e=>by rw [show j=i.toNat by omega];exact Fe c,a⟩ h
section
variable {P:Program} {w0:World} {n:Nat} {M0:Mem} {W0:World} {ro:Option Nat} {e:Env} {st:St} {Q:AQ}
theorem cI {α β' β:Type} {ta:α} {tb:β'} {F:Prop} {b:Bool} {X Y r:β} (f:F) {c:Operand} {x y:Code} (ht:Tg ta→(b=true∧F)→X=r→Da P w0 n M0 W0 ro x Q e st) (hf:Tg tb→(b=false∧F)→Y=r→Da P w0 n M0 W0 ro y Q e st)
  (hc:argOk e true c) (hb:Aq e c = .val (.bool b)):(if b=true then X else Y)=r→Tg (ta,tb)→Da P w0 n M0 W0 ro (.cond c x y) Q e st :=
 fun h _=>F6 h f (ht trivial) (hf trivial) hc (fun _=>hb)
theorem cT {c:Operand} {x y:Code} (c1:argOk e true c) (c2:Aq e c = .val (.bool true)) (c3:Da P w0 n M0 W0 ro x Q e st):Da P w0 n M0 W0 ro (.cond c x y) Q e st:=BN true c1 c2 (fun _=>c3) (fun q=>Bool.noConfusion q)
theorem cF {c:Operand} {x y:Code} (c1:argOk e true c) (c2:Aq e c = .val (.bool false)) (c3:Da P w0 n M0 W0 ro y Q e st):Da P w0 n M0 W0 ro (.cond c x y) Q e st:=BN false c1 c2 (fun q=>Bool.noConfusion q) (fun _=>c3)
theorem callG {f:FuncId} {c d:Bool} {cs args args':List AV} {k:AV→St→Prop} {v:AV}
  (hA:ACalls P w0 f args' st fun r s=>r=v∧s=st) (hE:(args++cs).map AV.pubA=args') (hk:k v st):I3 P w0 c d (.clo f cs) args st k:=Aw v hA hE hk
theorem evI {c:Nat} {d:Bool} {all os:List Oper} {K:Env→St→Prop} (h:Ws P w0 n d all (MC P w0 n d all K c) K os e st):MC P w0 n d all K (c+1) os e st:=h
theorem Zk7 {m:Nat} {L:List Nat} (t:Tg (m::L)) (hm:P.follows .mixedOrders=true) {id:Nat} {l:List Oper}
  (hev:MC P w0 n true l (fun e1 s1=>MC P w0 n false l (fun e2 s2=>Q .normal (DD L e2) s2) 9 (l.drop m) e1 s1) 9 (l.take m) e st) (hB:Lh l m=true:=by kernel_rfl):Da P w0 n M0 W0 ro (.region id l.toArray true) Q e st:=VM hm m 9 9 L hB hev
theorem te {B0 B bs X:List (List AV)} {Rw rows:List RowA} {L:List LoopA} {l:List (Nat × Nat × Ev.Own)} {c:Code} (hq:M0.N=B0.length∧M0.NR=Rw.length∧M0.NL=L.length∧Ev.Calm B0.length Rw.length L.length ⟨B,Rw,L⟩) (ho:Owns Rw rows l)
  (hB:B.length=B0.length) (hbs:(∀ x∈l,x.2.2.under rows.length)→∀ cs∈bs,∀ x∈cs,Under (B0.length+bs.length) rows.length L.length x)
  (he:(∀ x∈l,x.2.2.under rows.length)→HH (B0.length+bs.length) rows.length L.length e) (h:Da P w0 n M0 W0 ro c Q e ⟨B++bs,rows,L⟩):Da P w0 n M0 W0 ro c Q e ⟨B++(bs++X),rows,L⟩ :=
 BW hq.1 hq.2.1 hq.2.2.1 hB hq.2.2.2 ho (hbs ho.unders) (he ho.unders) h
theorem fI {α β' β:Type} {ta:α} {tb:β'} {F:Prop} {b:Bool} {X Y r:β} {p:Prop} (f:F) (ht:Tg ta→(b=true∧F)→X=r→p) (hf:Tg tb→(b=false∧F)→Y=r→p):(if b=true then X else Y)=r→Tg (ta,tb)→p:=fun h _=>by
 cases b with
 | true=>exact ht trivial ⟨rfl,f⟩ h
 | false=>exact hf trivial ⟨rfl,f⟩ h
theorem ckA {a b c d:Prop} (cc:d) (co:c) (ce:a) (cs:b):a∧b∧c∧d:=⟨ce,cs,co,cc⟩
def preL:List (List AV)→List (List AV)→Prop
 | [],_=>True
 | _::_,[]=>False
 | b::bs,c::cs=>c=b∧preL bs cs
attribute [go_sem] preL.eq_1 preL.eq_2 preL.eq_3
theorem YD:∀ {bs cs:List (List AV)},preL bs cs→cs=bs++cs.drop bs.length
 | [],_,_=>rfl
 | _::_,[],h=>h.elim
 | b::bs,c::cs,h=>by rw [h.1,List.length_cons,List.drop_succ_cons,List.cons_append,←YD h.2]
theorem ckI {B bs cs:List (List AV)} {rows:List RowA} {L:List LoopA} (h:preL bs cs):(⟨B++cs,rows,L⟩:St)=⟨B++(bs++cs.drop bs.length),rows,L⟩:=by rw [←YD h]
theorem ckB {B:List (List AV)} {rows:List RowA} {L:List LoopA}:(⟨B,rows,L⟩:St)=⟨B++([]++[]),rows,L⟩:=by simp
theorem Owns.n1 {Rw rows:List RowA} {sz n m:Nat} {o:Ev.Own} (h:Owns Rw rows [(sz,n,o)]) (e:n=m):Owns Rw rows [(sz,m,o)]:=e▸h
theorem Owns.n2 {Rw rows:List RowA} {sz n m sz' n' m':Nat} {o o':Ev.Own} (h:Owns Rw rows [(sz,n,o),(sz',n',o')]) (e:n=m) (e':n'=m'):Owns Rw rows [(sz,m,o),(sz',m',o')]:=e▸e'▸h
structure AE (P:Program) (t el:TypeId) (sz:Nat) (ag:Bool) (by8:Nat):Prop where
 he:GT P t=some (el,sz,ag,by8)
 hz:(AZ P el).isSome=true
 hs:0<sz
theorem ae {P:Program} {t el:TypeId} {sz by8:Nat} {ag:Bool} {z:List AV} (he:GT P t=some (el,sz,ag,by8)) (hz:AZ P el=some z) (hs:0<sz:=by decide):AE P t el sz ag by8:=⟨he,by rw [hz];rfl,hs⟩
theorem aI {P:Program} {t el:TypeId} {sz by8 n:Nat} {ag:Bool} {Rw rows:List RowA} {l:List (Nat × Nat × Ev.Own)} {o:Ev.Own} {β:Type} {x:Option β} {r:β} {A p:Prop} (a:AE P t el sz ag by8) (hO:Owns Rw rows ((sz,n,o)::l)) (f:A)
  (k:∀ o' rows',Owns Rw rows' ((sz,n+1,o')::l)→((n+1)*by8≤140737488355328∧n+1≤4611686018427387904) →
   ((∀ (xs:List AV) (y:AV) (B:Ao) (L:As) (o2:Ev.Own),xs.length=n→(∀ z∈xs,z.cells.length=sz)→evAppend P ⟨B,rows,L⟩ t (.list xs o) (.list [y] o2)=((y.cells.length=sz∧AA y=true),.list (xs++[y.pub]) o',⟨B,rows',L⟩))∧A)→x=some r→p) :
  (if (n+1)*by8≤140737488355328∧n+1≤4611686018427387904 then x else none)=some r→p:=fun h=>by
 obtain ⟨c,h⟩:=An h
 obtain ⟨o',rows',b,q⟩:=hO.append (P:=P) a.he a.hz a.hs 1 c.1 c.2
 refine k o' rows' b c ⟨fun xs y B L o2 d e=>?_,f⟩ h
 have:=q xs [y] B L o2 d rfl e
 simpa only [List.mem_singleton,forall_eq,List.map_cons,List.map_nil] using this
theorem q1 {a:Prop} (x:a):a∧True:=⟨x,trivial⟩
theorem q2 {a b:Prop} (x:a) (y:b):a∧b∧True:=⟨x,y,trivial⟩
theorem q3 {a b c:Prop} (x:a) (y:b) (z:c):a∧b∧c∧True:=⟨x,y,z,trivial⟩
theorem skI {d:Bool} {fv:AV} {args:List AV} {k:AV→St→Prop} (h:k .junk st):I3 P w0 false d fv args st k:=IG h
theorem ZnP {B:List (List AV)} {l:Nat} {c:List AV} (h:B[l]? = some c):B[l]? = some c:=h
theorem ZhH {f:FuncId} {c d:Bool} {cs args args':List AV} {k:AV→St→Prop} {v:AV}
  (hA:ACalls P w0 f args' st fun r s=>r=v∧s=st) (hE:args++cs=args') (hk:k v st):I3 P w0 c d (.clo f cs) args st k:=Zfv v hA hE hk
end
theorem go {T F C1 C2 C3 C G H HC HK p:Prop} (tL:T) (h:H) (hs:F) (hN:C1) (hNR:C2) (hNL:C3) (hcalm:C) (hO:G) (hc:HC) (hk:HK) (k:T→H→F→C1→C2→C3→C→G→HC→HK→p:=by
    intro tL h hs hN hNR hNL hcalm hO hc hk
    try
      ((with_reducible apply te ⟨hN,hNR,hNL,hcalm⟩ hO)
       case' hB=>first | rfl | simp only [List.length_set]
       case' hbs=>(intro hU;(try simp only [List.mem_cons,List.not_mem_nil,or_false,forall_eq_or_imp,forall_eq] at hU);(first | simp +decide only [go_sem,Nat.reduceAdd,HH,hU] | simp +decide only [go_sem,Nat.reduceAdd,HH])<;>(try (repeat' apply Ad))<;>first | omega | assumption | exact hU.1 | exact hU.2 | exact hU.2.1 | exact hU.2.2)
       case' he=>(intro hU;(try simp only [List.mem_cons,List.not_mem_nil,or_false,forall_eq_or_imp,forall_eq] at hU);(first | simp +decide only [go_sem,Nat.reduceAdd,HH,hU] | simp +decide only [go_sem,Nat.reduceAdd,HH])<;>(try (repeat' apply Ad))<;>first | omega | assumption | exact hU.1 | exact hU.2 | exact hU.2.1 | exact hU.2.2))
    repeat' first
      | (revert h;(with_reducible refine xI hs ?_);intro x hxa hxb hs h)
      | (revert h;(with_reducible refine bI2 (by assumption) ?_);intro h)
      | (revert h;(with_reducible refine bI ?_);intro y hy h)
      | (revert h;(first | (with_reducible refine aI hc.1 hO hs ?_) | (with_reducible refine aI hc.2.1 hO hs ?_) | (with_reducible refine aI hc.2.2.1 hO hs ?_) | (with_reducible refine aI hc.2.2.2.1 hO hs ?_) | (with_reducible refine aI hc.2.2.2.2.1 hO hs ?_));intro o rows hO hg hs h)
      | (revert h;(first | (with_reducible refine aI hc.1 (hO.full _ 0) hs ?_) | (with_reducible refine aI hc.2.1 (hO.full _ 0) hs ?_) | (with_reducible refine aI hc.2.2.1 (hO.full _ 0) hs ?_) | (with_reducible refine aI hc.2.2.2.1 (hO.full _ 0) hs ?_) | (with_reducible refine aI hc.2.2.2.2.1 (hO.full _ 0) hs ?_));intro o rows hO hg hs h)
      | (revert h;(first | (with_reducible refine aI hc.1 (hO.swap (List.Perm.swap _ _ _)) hs ?_) | (with_reducible refine aI hc.2.1 (hO.swap (List.Perm.swap _ _ _)) hs ?_) | (with_reducible refine aI hc.2.2.1 (hO.swap (List.Perm.swap _ _ _)) hs ?_) | (with_reducible refine aI hc.2.2.2.1 (hO.swap (List.Perm.swap _ _ _)) hs ?_) | (with_reducible refine aI hc.2.2.2.2.1 (hO.swap (List.Perm.swap _ _ _)) hs ?_));intro o rows hO hg hs h)
      | (revert h;(first | (with_reducible refine aI hc.1 ((hO.full _ 0).swap (List.Perm.swap _ _ _)) hs ?_) | (with_reducible refine aI hc.2.1 ((hO.full _ 0).swap (List.Perm.swap _ _ _)) hs ?_) | (with_reducible refine aI hc.2.2.1 ((hO.full _ 0).swap (List.Perm.swap _ _ _)) hs ?_) | (with_reducible refine aI hc.2.2.2.1 ((hO.full _ 0).swap (List.Perm.swap _ _ _)) hs ?_) | (with_reducible refine aI hc.2.2.2.2.1 ((hO.full _ 0).swap (List.Perm.swap _ _ _)) hs ?_));intro o rows hO hg hs h)
      | (revert h;(with_reducible refine gI ?_);intro hg h)
      | (with_reducible apply Ad)
      | ((with_reducible refine hK _ _ ?_);clear hK)
      | (with_reducible refine hk.1 _ _ ?_)
      | (with_reducible refine hk.2.1 _ _ ?_)
      | (with_reducible refine hk.2.2.1 _ _ ?_)
      | (with_reducible exact hk.2.1 _ _ h)
      | (clear hK;(with_reducible refine hK _ _ ?_);clear hK)
      | (clear hK;clear hK;(with_reducible refine hK _ _ ?_);clear hK)
      | ((with_reducible refine evI ?_);simp +decide only [go_sem,Nat.reduceAdd,hs])
      | (with_reducible refine skI ?_)
      | ((with_reducible apply callG)
         case' hA=>first | apply hc.1 | apply hc.2.1 | apply hc.2.2.1 | apply hc.2.2.2.1 | apply hc.2.2.2.2.1 | apply hc.2.2.2.2.2.1 | apply hc.2.2.2.2.2.2.1 | apply hc.2.2.2.2.2.2.2.1
         case' hE=>rfl
         try (any_goals assumption))
      | ((with_reducible apply callG)
         case' hA=>first | apply hc.1 | apply hc.2.1 | apply hc.2.2.1 | apply hc.2.2.2.1 | apply hc.2.2.2.2.1 | apply hc.2.2.2.2.2.1 | apply hc.2.2.2.2.2.2.1 | apply hc.2.2.2.2.2.2.2.1
         any_goals (show _=some _;assumption)
         case' hE=>first | rfl | (simp +decide only [go_sem,Nat.reduceAdd,hs];done) | (simp +decide only [go_sem,Nat.reduceAdd,Vl.cs,Ty.cs,hs];done)
         try (any_goals assumption))
      | ((with_reducible apply ZhH)
         case' hA=>first | apply hc.1 | apply hc.2.1 | apply hc.2.2.1 | apply hc.2.2.2.1 | apply hc.2.2.2.2.1 | apply hc.2.2.2.2.2.1 | apply hc.2.2.2.2.2.2.1 | apply hc.2.2.2.2.2.2.2.1
         case' hE=>rfl
         try (any_goals first | assumption | exact List.prefix_append _ _ | exact List.prefix_refl _ | exact hO.pre))
      | ((with_reducible apply ZhH)
         case' hA=>first | apply hc.1 | apply hc.2.1 | apply hc.2.2.1 | apply hc.2.2.2.1 | apply hc.2.2.2.2.1 | apply hc.2.2.2.2.2.1 | apply hc.2.2.2.2.2.2.1 | apply hc.2.2.2.2.2.2.2.1
         any_goals (show _=some _;assumption)
         case' hE=>first | rfl | (simp +decide only [go_sem,Nat.reduceAdd,hs];done) | (simp +decide only [go_sem,Nat.reduceAdd,Vl.cs,Ty.cs,hs];done)
         try (any_goals first | assumption | exact List.prefix_append _ _ | exact List.prefix_refl _ | exact hO.pre))
      | ((with_reducible refine ZnP ?_);first | rfl | (simp +decide only [go_sem,Nat.reduceAdd,hs];done))
      | ((with_reducible apply Am);intro K hK)
      | ((with_reducible refine HU (c:=9) tg (tgh tL) ?_);replace tL:=tgt tL)
      | (with_reducible apply Ar)
      | (revert tL;revert h;(with_reducible apply cI hs)
         case' hc=>simp +decide only [go_sem,Nat.reduceAdd]
         case' hb=>first | (simp +decide only [go_sem,Nat.reduceAdd,hs];done) | (simp +decide only [go_sem,Nat.reduceAdd,hs];rfl)
         case' ht=>intro tL hs h
         case' hf=>intro tL hs h)
      | ((with_reducible refine BB ?_)
         simp +decide only [go_sem,Nat.reduceAdd,hs]
         first | (have hgt:=Option.some.inj h;subst hgt) | subst h
         first | refine Rz hcalm rfl hO.pre ?_ ⟨?_,?_⟩ | refine Tq hcalm rfl hO.pre ?_ ⟨?_,?_⟩ | refine Rz (ER hcalm ?_) (List.length_set ..) hO.pre ?_ ⟨?_,?_⟩ | refine Tq (ER hcalm ?_) (List.length_set ..) hO.pre ?_ ⟨?_,?_⟩ | exact hk.1 _ _ rfl _
         all_goals first | rfl | (simp +decide only [go_sem,Nat.reduceAdd,hs];done) | (simp +decide only [go_sem,Nat.reduceAdd,Vl.cs,Ty.cs,hs];done) | (simp_all;done))
      | ((with_reducible refine Q5 (tgh tL) ?_);replace tL:=tgt tL;first | (with_reducible refine C7 ?_) | (with_reducible refine Iy ?_)
         simp +decide only [go_sem,Nat.reduceAdd])
      | ((with_reducible refine Zk7 (tgh tL) PQ ?_);replace tL:=tgt tL)
      | ((with_reducible apply cT)
         case' c1=>simp +decide only [go_sem,Nat.reduceAdd]
         case' c2=>first | rfl | (simp +decide only [go_sem,Nat.reduceAdd,hs];done))
      | ((with_reducible apply cF)
         case' c1=>simp +decide only [go_sem,Nat.reduceAdd]
         case' c2=>first | rfl | (simp +decide only [go_sem,Nat.reduceAdd,hs];done))
      | (revert tL;revert h;(with_reducible refine fI hs ?_ ?_)<;>(intro tL hs h;(try have hs:=Ad (of_decide_eq_true hs.1) hs);(try have hs:=Ad (of_decide_eq_false hs.1) hs);try simp +decide only [go_sem,Nat.reduceAdd,hs]))
      | ((with_reducible apply Exists.intro)
         repeat (with_reducible apply Exists.intro)
         (with_reducible apply ckA)
         case' cc=>exact h
         case' co=>first | exact hO | (refine Owns.n1 hO ?_;first | rfl | simp only [List.length_append,List.length_cons,List.length_nil,List.length_map,Nat.zero_add,Nat.add_zero]) | (refine Owns.n2 (hO.swap (List.Perm.swap _ _ _)) ?_ ?_<;>(first | rfl | simp only [List.length_append,List.length_cons,List.length_nil,List.length_map,Nat.zero_add,Nat.add_zero])) | (refine Owns.n2 hO ?_ ?_<;>(first | rfl | simp only [List.length_append,List.length_cons,List.length_nil,List.length_map,Nat.zero_add,Nat.add_zero]))
         case' cs=>first | exact ckB | (refine ckI ?_;first | rfl | (simp +decide only [go_sem,Nat.reduceAdd,hs];done))
         case' ce=>first | rfl | (simp +decide only [go_sem,Nat.reduceAdd,hs];done))
      | exact cl):p:=k tL h hs hN hNR hNL hcalm hO hc hk
def Jk (rec:Vl→Option Vl) (n:Nat) (b:Vl) (b2_k22_4:List Vl) (b2_k22_5:List (ByteArray × Vl)):Option Vl :=
 some (Vl.mk b.kind b.int b.scale b.text b2_k22_4 b2_k22_5)
def FK (rec:Vl→Option Vl) (n:Nat) (q:Vl):Nat→Int→(List Vl)→(List (ByteArray × Vl))→Option Vl
 | 0,_,_,_=>none
 | m+1,b,b2_l25_4,b2_l25_5 =>
  if decide (b<(q.fields.length:Int)) then
   (EA q.fields b).bind fun h =>
   (rec h.2).bind fun y =>
   if (b2_l25_5.length+1)*104≤140737488355328∧b2_l25_5.length+1≤4611686018427387904 then
    if Ba (b+1) then
     (FK rec n q m) (b+1) b2_l25_4 (b2_l25_5++([(h.1,y)]))
    else none
   else none
  else
   Jk rec n q b2_l25_4 b2_l25_5
def J4 (rec:Vl→Option Vl) (n:Nat) (b:Vl) (b2_k5_4:List Vl):Option Vl :=
 FK rec n b n 0 b2_k5_4 ([])
def GH (rec:Vl→Option Vl) (n:Nat) (h:Vl):Nat→Int→(List Vl)→Option Vl
 | 0,_,_=>none
 | m+1,b,b2_l8_4 =>
  if decide (b<(h.list.length:Int)) then
   (EA h.list b).bind fun q =>
   (rec q).bind fun y =>
   if (b2_l8_4.length+1)*88≤140737488355328∧b2_l8_4.length+1≤4611686018427387904 then
    if Ba (b+1) then
     (GH rec n h m) (b+1) (b2_l8_4++([y]))
    else none
   else none
  else
   J4 rec n h b2_l8_4
def L1 (rec:Vl→Option Vl) (n:Nat) (b:Vl):Option Vl :=
 GH rec n b n 0 ([])
def EZ:Nat→Vl→Option Vl
 | 0,_=>none
 | n+1,b=>L1 (EZ n) n b
def OQ (w0:World) (F:Vl→Option Vl):Prop:=∀ (B:Ao) (Rw:Au) (L:As) (b:Vl) (r:Vl),F b=some r→ACalls Tryz.prog w0 65 [.agg (b.cs)] ⟨B,Rw,L⟩ fun x st=>x = .agg (r.cs)∧st=⟨B,Rw,L⟩
theorem Ux (w0:World) (rec:Vl→Option Vl) (ih:OQ w0 rec) (n:Nat):OQ w0 (L1 rec n):=by
 intro B Rw L a0 r h
 rw [L1] at h
 refine hd [.cell 2 49] Tryz.func65 Tryz.ntmps65 fun M0 W0 D x y t J w hs=>?_
 simp only [Az]
 refine rg [1,2] hs ?_
 refine rg [1,2,3] hs ?_
 have hs:=Ad (Vl.cs_eqs a0) hs
 refine rg [1,2,3] hs ?_
 refine AB (fun e st=>∃ (g:List Vl) (i:Ev.Own),Ck e st B Rw L [(1,true,.box B.length 0),(2,true,.box (B.length+1) 0),(3,true,.box (B.length+2) 0)] [a0.cs,Jc,[Ak a0.kind,Ak a0.int,Ak a0.scale,.val (.string a0.text),.list (g.map B1) i,.list ([]) .full]] [(6,g.length,i)] (J4 rec n a0 g=some r)) ?_ ?_
 ·intro K6 F
  refine rg [1,2,3,12,13,14] hs ?_
  apply Ar
  refine Ax (fun m e st=>∃ (v:Int) (p:List Vl) (q:Ev.Own),Ck e st B Rw L [(1,true,.box B.length 0),(2,true,.box (B.length+1) 0),(3,true,.box (B.length+2) 0),(12,true,.list (a0.list.map B1) .none),(13,true,Ak (a0.list.length:Int)),(14,true,Ak v)] [a0.cs,Jc,[Ak a0.kind,Ak a0.int,Ak a0.scale,.val (.string a0.text),.list (p.map B1) q,.list ([]) .full]] [(6,p.length,q)] (GH rec n a0 m v p=some r)) n ⟨0,([]),.full,([]),Rw,ef hs,ef hs,Owns.of_eq ((w).full 6 0) Ey,h⟩ ?_
  rintro ml8 e st ⟨v,p,q,Xl8,Rl8,rfl,rfl,w,h⟩ Ul8 Vl8
  cases ml8 with
  | zero=>cases h
  | succ ml8 =>
  rw [GH] at h
  exact go (tg (a:=([1,2,3,12,13,14,15],([1,2,3,12,13,14],[1,2,3,5,12,13,14],[5,1,2,3,12,13,14],[1,2,3,12,13,14],()),[1,2,3],()))) h hs D x y t w (q2 (ae Ny IJ) ih) (q2 F (fun e s=>Vl8 ml8 e s (Nat.lt_succ_self _)))
 ·clear h;rintro e st ⟨g,i,Xk5,Rk5,rfl,rfl,w,h⟩
  rw [J4] at h
  have E:=w.unders
  simp only [List.mem_cons,List.not_mem_nil,or_false,forall_eq_or_imp,forall_eq] at E
  refine td D x y t w ?_
  refine AB (fun e st=>∃ (k:List Vl) (j:List (ByteArray × Vl)) (l:Ev.Own) (o:Ev.Own),Ck e st B Rw L [(2,true,.box (B.length+1) 0),(3,true,.box (B.length+2) 0)] [a0.cs,Jc,[Ak a0.kind,Ak a0.int,Ak a0.scale,.val (.string a0.text),.list (k.map B1) l,.list (j.map IC) o]] [(6,k.length,l),(7,j.length,o)] (Jk rec n a0 k j=some r)) ?_ ?_
  ·intro K23 z
   refine rg [2,3,27,28,29] hs ?_
   apply Ar
   refine Ax (fun m e st=>∃ (u:Int) (b:List Vl) (c:List (ByteArray × Vl)) (d:Ev.Own) (f:Ev.Own),Ck e st B Rw L [(2,true,.box (B.length+1) 0),(3,true,.box (B.length+2) 0),(27,true,.list (a0.fields.map IC) .none),(28,true,Ak (a0.fields.length:Int)),(29,true,Ak u)] [a0.cs,Jc,[Ak a0.kind,Ak a0.int,Ak a0.scale,.val (.string a0.text),.list (b.map B1) d,.list (c.map IC) f]] [(6,b.length,d),(7,c.length,f)] (FK rec n a0 m u b c=some r)) n ⟨0,g,([]),i,.full,([]),Rk5,ef hs,ef hs,Owns.of_eq (((w).full 7 0).swap (List.Perm.swap _ _ _)) Ey,h⟩ ?_
   rintro ml25 e st ⟨u,b,c,d,f,Xl25,Rl25,rfl,rfl,w,h⟩ Ul25 Vl25
   cases ml25 with
   | zero=>cases h
   | succ ml25 =>
   rw [FK] at h
   have E:=w.unders
   simp only [List.mem_cons,List.not_mem_nil,or_false,forall_eq_or_imp,forall_eq] at E
   obtain ⟨H,G⟩:=E
   refine td D x y t w ?_
   refine rg [2,3,27,28,29,30] hs ?_
   apply Am;intro K27 C
   refine F6 h hs ?_ ?_<;>intro hs h
   rotate_left
   ·refine sx [2,3] hs z ?_
    exact ⟨b,c,d,f,([]),Rl25,ef hs,ef hs,Owns.of_eq (((w).swap (List.Perm.swap _ _ _)).swap (List.Perm.swap _ _ _)) Ey,h⟩
   exact go (tg (a:=([2,3,27,28,29],[2,3,7,27,28,29],[9,2,3,27,28,29],[2,3,27,28,29],()))) h hs D x y t w (q2 (ae ZdP Tn) ih) (q2 C (fun e s=>Vl25 ml25 e s (Nat.lt_succ_self _)))
  ·clear h;rintro e st ⟨k,j,l,o,Xk22,Rk22,rfl,rfl,w,h⟩
   rw [Jk] at h
   exact go (tg (a:=([2],()))) h hs D x y t w trivial trivial
theorem Kp (w0:World):∀ n:Nat,OQ w0 (EZ n)
 | 0=>fun _ _ _ _ _ h=>(nomatch h)
 | n+1=>Ux w0 (EZ n) (Kp w0 n) n
end Go.Proofs.YtcdnijfbfdnjlaaGreatDoor
namespace Go.Ev
open Go Go.RowKit
def Mem.start:Mem:=⟨0,0,fun _=>0,fun _=>0,fun _=>0,fun _=>0,fun _=>0,fun _=>0,0,fun _=>0⟩
theorem Tj (W:World):RelSt W Mem.start ⟨[],[],[]⟩ W where
 below := .refl _ _
 N:=rfl
 NR:=rfl
 top:=fun _ _=>rfl
 inj:=fun _ _ h=>absurd h (Nat.not_lt_zero _)
 box:=fun _ _ h=>by simp at h
 row:=fun _ _ h=>by simp at h
 rowinj:=fun _ _ h=>absurd h (Nat.not_lt_zero _)
 loop:=⟨rfl,fun _ _ h=>absurd h (Nat.not_lt_zero _),fun _ _ h=>by simp at h⟩
theorem PL {P:Program} {f:FuncId} {W:World} {vals:Array Value} {args:List AV} {r:Value} (h:ACalls P W f args ⟨[],[],[]⟩ fun v st=>v = .val r∧st=⟨[],[],[]⟩) (hr:RowR W Mem.start W vals args) :
  Calls P f vals W fun e w'=>e = .returned r∧Below W.heap.size W w' :=
 (h.2 Mem.start W vals (Tj W) hr).mono fun en w' ⟨v,M',a,st,h1,⟨h2,_⟩,_,h4,h5⟩=>by
  subst h2
  have:=h5.val_inv.1
  subst this
  exact ⟨h1,h4.below⟩
theorem Xy {W:World} {v u t:Value} {x y z:AV} (h:R W Mem.start W v x) (k:R W Mem.start W u y) (l:R W Mem.start W t z):RowR W Mem.start W #[v,u,t] [x,y,z]:=⟨rfl,fun i b a=>by
 have:i=0∨i=1∨i=2:=by simp at a;omega
 rcases this with rfl | rfl | rfl
 ·exact h
 ·exact k
 ·exact l⟩
end Go.Ev
namespace Go.Proofs.YtcdnijfbfdnjlaaGreatDoor
open Go Go.Shelf Go.ChangeShapes Go.WideShapes Go.ChangeAt Go.RowKit Go.Lib Go.Ev
open Go.ChangeMaps (open_string shut_string)
set_option maxRecDepth 100000
theorem Zgn:ownKnob Tryz.prog.godebug=none:=by kernel_rfl
def ZlC:DataW Unit→List Value
 | .lit (.int k z)=>[.int k z]
 | .agg l=>l.flatMap fun | .lit (.int k z)=>[.int k z] | _=>[]
 | _=>[]
def ZlN:DataW Unit→List Value
 | .agg l=>l.flatMap ZlC
 | _=>[]
theorem RF {W:World} (h:Lib.VarReads Tryz.prog W L0 Rows.laid_internal_strconv_uint64pow10):Pow10 W:=by
 obtain ⟨g,t,cs,a,p,c,d,f,b⟩:=h
 obtain rfl:=Option.some.inj ((show Tryz.prog.globalNamed L0=some 3 by kernel_rfl).symm.trans c)
 obtain rfl:=Option.some.inj ((show (Tryz.prog.globals[3]?).map (·.type)=some 306 by kernel_rfl).symm.trans d)
 have e:(Rows.laid_internal_strconv_uint64pow10:DataW Unit)=Lib.tabData .u64 Lib.pow10Tab:=by kernel_rfl
 rw [e] at b
 unfold Pow10 Lib.TabIs
 rw [f,←Lib.cells_of_tab (n:=20) (k := .u64) (zs:=Lib.pow10Tab) Tryz.underlying306 Tryz.underlying223 (by kernel_rfl) (by kernel_rfl) b]
set_option maxRecDepth 100000
mutual
def Vl.wf:Vl→Prop
 | .mk k i s t l f=>Ba k∧Ba i∧Ba s∧t.size≤maxLen∧l.length≤maxLen∧f.length≤maxLen∧Zbm l∧Zbd f
def Zbm:List Vl→Prop
 | []=>True
 | v::r=>v.wf∧Zbm r
def Zbd:List (ByteArray × Vl)→Prop
 | []=>True
 | (n,v)::r=>n.size≤maxLen∧v.wf∧Zbd r
end
theorem Vs:∀ l,Zbm l↔∀ v∈l,v.wf
 | []=>by simp [Zbm]
 | v::r=>by simp [Zbm,Vs r]
theorem Vk:∀ l,Zbd l↔∀ p∈l,p.1.size≤maxLen∧p.2.wf
 | []=>by simp [Zbd]
 | (n,v)::r=>by simp [Zbd,Vk r,and_assoc]
mutual
def Ty.wf:Ty→Prop
 | .mk k lo hi s w e f=>Ba k∧Ba lo∧Ba hi∧Ba s∧(∀ x∈w,x.size≤maxLen)∧w.length≤maxLen∧e.length≤maxLen∧f.length≤maxLen∧ZcW e∧Wh f
def ZcW:List Ty→Prop
 | []=>True
 | v::r=>v.wf∧ZcW r
def Wh:List (Int × ByteArray × Int × Ty × List Vl)→Prop
 | []=>True
 | (n,s,d,t,l)::r=>(Ba n∧s.size≤maxLen∧Ba d∧t.wf∧l.length≤maxLen∧∀ v∈l,v.wf)∧Wh r
end
theorem WO:∀ l,ZcW l↔∀ v∈l,v.wf
 | []=>by simp [ZcW]
 | v::r=>by simp [ZcW,WO r]
theorem Tf:∀ l,Wh l↔∀ p∈l,Ba p.1∧p.2.1.size≤maxLen∧Ba p.2.2.1∧p.2.2.2.1.wf∧p.2.2.2.2.length≤maxLen∧∀ v∈p.2.2.2.2,v.wf
 | []=>by simp [Wh]
 | (n,s,d,t,l)::r=>by simp [Wh,Tf r]
mutual
def Vl.bulk:Vl→Nat
 | .mk _ _ _ t l f=>1+t.size+M7 l+UO f
def M7:List Vl→Nat
 | []=>0
 | v::r=>v.bulk+M7 r
def UO:List (ByteArray × Vl)→Nat
 | []=>0
 | (n,v)::r=>n.size+v.bulk+UO r
end
def US:List ByteArray→Nat
 | []=>0
 | w::r=>w.size+1+US r
mutual
def Ty.bulk:Ty→Nat
 | .mk _ _ _ _ w e f=>1+US w+UF e+PU f
def UF:List Ty→Nat
 | []=>0
 | v::r=>v.bulk+UF r
def PU:List (Int × ByteArray × Int × Ty × List Vl)→Nat
 | []=>0
 | (_,n,_,t,l)::r=>n.size+t.bulk+M7 l+PU r
end
theorem MW:∀ l,M7 l=(l.map Vl.bulk).sum
 | []=>rfl
 | v::r=>by rw [M7,MW r];rfl
theorem QB:∀ l,UO l=(l.map fun p=>p.1.size+p.2.bulk).sum
 | []=>rfl
 | (n,v)::r=>by rw [UO,QB r];rfl
theorem Qo:∀ l,US l=(l.map fun w=>w.size+1).sum
 | []=>rfl
 | v::r=>by rw [US,Qo r];rfl
theorem QQ:∀ l,UF l=(l.map Ty.bulk).sum
 | []=>rfl
 | v::r=>by rw [UF,QQ r];rfl
theorem O5:∀ l,PU l=(l.map fun p=>p.2.1.size+p.2.2.2.1.bulk+M7 p.2.2.2.2).sum
 | []=>rfl
 | (a,n,b,t,l)::r=>by rw [PU,O5 r];rfl
def Part.wf (p:Part):Prop:=Ba p.kind∧Ba p.index∧p.name.size≤maxLen
def Sch.wf (s:Sch):Prop:=s.name.size≤maxLen∧Ba s.version∧s.type.wf
section
variable {H:Type} {enc:TypeId × Value→H} {W:World}
def RC (W:World) (cs:List Value) (xs:List AV):Prop:=cs.length=xs.length∧∀ i (h1:i<cs.length) (h2:i<xs.length),R W Mem.start W cs[i] xs[i]
theorem RC.nil:RC W [] []:=⟨rfl,fun i a=>absurd a (by simp)⟩
theorem RC.cons {v:Value} {x:AV} {cs:List Value} {xs:List AV} (h:R W Mem.start W v x) (k:RC W cs xs):RC W (v::cs) (x::xs):=⟨by simp [k.1],fun i a b=>by
 cases i with
 | zero=>exact h
 | succ i=>simpa using k.2 i (by simpa using a) (by simpa using b)⟩
theorem RC.app {cs ds:List Value} {xs ys:List AV} (h:RC W cs xs) (k:RC W ds ys):RC W (cs++ds) (xs++ys):=by
 refine ⟨by simp [h.1,k.1],fun i a b=>?_⟩
 by_cases c:i<cs.length
 ·rw [List.getElem_append_left c,List.getElem_append_left (h.1▸c)];exact h.2 i c _
 ·rw [List.getElem_append_right (Nat.le_of_not_lt c),List.getElem_append_right (h.1▸Nat.le_of_not_lt c)]
  simp only [h.1]
  exact k.2 _ (by have:=h.1;rw [List.length_append] at a;omega) (by have:=h.1;rw [List.length_append] at b;omega)
theorem RC.agg {cs:List Value} {xs:List AV} (h:RC W cs xs) (h1:∀ x∈xs,x.one=true):R W Mem.start W (.agg cs.toArray) (.agg xs) := .agg (by simpa using h.1) h1 (fun i a b=>by simpa using h.2 i (by simpa using a) b)
noncomputable abbrev Td (enc:TypeId × Value→H) (W:World) (n:Nat) (t:TypeId) (cs:List Value):Option (DataW H × List MemPlace):=DataW.trod enc Tryz.prog W 0 (fun _=>true) true n t cs
theorem Oy (d:DataW H):1≤Rows.uptoBulk d:=by
 cases d with
 | lit l=>cases l<;>simp [Rows.uptoBulk]
 | _=>simp [Rows.uptoBulk]
theorem S7 {α:Type} (m:α→Nat):∀ (l:List α) (es:List (DataW H × List MemPlace)),l.length=es.length→(∀ i (h1:i<l.length) (h2:i<es.length),m l[i]≤Rows.uptoBulk es[i].1)→(l.map m).sum≤Rows.uptoBulkAll (es.map (·.1))
 | [],_,_,_=>by simp
 | y::r,[],h,_=>by simp at h
 | y::r,e::es,h,k=>by
  have a:=k 0 (by simp) (by simp)
  have:=S7 m r es (by simpa using h) (fun i h1 h2=>by have:=k (i+1) (by simpa using h1) (by simpa using h2);simpa using this)
  simp only [List.map_cons,List.sum_cons,Rows.uptoBulkAll,List.getElem_cons_zero] at a ⊢
  omega
theorem CE {n:Nat} {cs:List Value} {x:DataW H × List MemPlace} (h:Td enc W n 3 cs=some x):∃ z,Ba z∧cs=[.int .i64 z]:=by
 obtain ⟨z,rfl,_,a⟩:=DataW.trod_int Tryz.underlying3 h
 refine ⟨z,?_,rfl⟩
 simp [Lit.wf,IntKind.min,IntKind.max,IntKind.signed,IntKind.bits] at a
 unfold Ba
 omega
theorem J7 {n:Nat} {cs:List Value} {x:DataW H × List MemPlace} (h:Td enc W n 9 cs=some x):∃ s:ByteArray,s.size≤maxLen∧cs=[.string s]∧s.size+1≤Rows.uptoBulk x.1:=by
 obtain ⟨s,rfl,rfl,a⟩:=DataW.trod_string Tryz.underlying9 h
 exact ⟨s,a,rfl,by simp [Rows.uptoBulk]⟩
theorem FI {α:Type} (f:α→AV) (p:α→Prop) (m:α→Nat) {t e:TypeId} {sz:Nat} (ht:Tryz.prog.underlying t=some (.slice e)) (hc:Tryz.prog.cellsOf e=sz) (hsz:0<sz) {n:Nat}
  (H0:∀ cs x,Td enc W n e cs=some x→∃ y u,p y∧u.cells.toList=cs∧R W Mem.start W u (f y)∧m y≤Rows.uptoBulk x.1) {cs:List Value} {x:DataW H × List MemPlace} (h:Td enc W (n+1) t cs=some x) :
  ∃ (l:List α) (v:Value),(∀ y∈l,p y)∧l.length≤maxLen∧cs=[v]∧R W Mem.start W v (.list (l.map f) .none)∧(l.map m).sum+1≤Rows.uptoBulk x.1:=by
 rcases DataW.trod_slice ht h with ⟨rfl,_⟩ | ⟨a,len,cap,elems,rest,n',hn,rfl,rfl,hb,hl,hm,hlen,hel,hsp,_⟩
 ·exact ⟨[],_,by simp,by simp,rfl,.nil (fun id=>by simp),by simpa using Oy x.1⟩
 ·cases hn
  by_cases hcap:cap=0
  ·subst hcap
   obtain rfl:len=0:=by omega
   exact ⟨[],_,by simp,by simp,rfl,.emp (fun id=>by simp),by simpa using Oy _⟩
  have hspot:a.spot=none:=by
   have get:∀ (c:DataW H × List MemPlace) (r:List Value→Option (DataW H × List MemPlace)),(W.cells? 0 (a.add (0*Tryz.prog.cellsOf e)) (Tryz.prog.cellsOf e)).bind r=some c→a.spot=none:=fun c r Y=>by
    obtain ⟨cs',E,_⟩:=Option.bind_eq_some_iff.1 Y
    obtain ⟨_,D,F⟩:=World.cells?_some E
    have h4:=F 0 (by omega)
    rw [List.getElem?_eq_getElem (by omega)] at h4
    have Z:(a.add (0*Tryz.prog.cellsOf e)).add 0=a:=by simp [Addr.add]
    rw [Z] at h4
    unfold World.cell? at h4
    split at h4
    ·split at h4
     ·cases h4
     ·rename_i q;simpa using q
    ·cases h4
   by_cases h0:0<len
   ·have:=hel 0 h0
    rw [List.getElem?_eq_getElem (by omega)] at this
    exact get _ _ this
   ·obtain ⟨E,D⟩:=hsp rfl
    have:=D 0 (by omega)
    rw [List.getElem?_eq_getElem (by omega)] at this
    obtain rfl:len=0:=by omega
    exact get _ _ this
  obtain ⟨b,off,sp⟩:=a
  simp only at hspot
  subst hspot
  have C:∀ i,i<len→∃ y u,p y∧R W Mem.start W u (f y)∧(∀ h:i<elems.length,m y≤Rows.uptoBulk elems[i].1)∧u.cells.size=sz∧∀ j,j<sz→W.cell? ⟨b,off+i*sz+j,none⟩=u.cells[j]? := fun i k=>by
   have E:=hel i k
   rw [List.getElem?_eq_getElem (by omega)] at E
   obtain ⟨cs',D,F⟩:=Option.bind_eq_some_iff.1 E
   obtain ⟨y,u,h4,V,h6,K⟩:=H0 _ _ F
   obtain ⟨_,U,O⟩:=World.cells?_some D
   rw [hc] at U O
   refine ⟨y,u,h4,h6,fun _=>K,by rw [←U,←V,Array.length_toList],fun j G=>?_⟩
   have:=O j G
   rw [←V,Array.getElem?_toList] at this
   rw [←this]
   congr 1
   have Q:∀ (o m:Nat),(⟨b,o,none⟩:Addr).add m=⟨b,o+m,none⟩:=fun o m=>by unfold Addr.add;split<;>simp_all
   rw [Q,Q]
  classical
  let y:Nat→Option (α × Value):=fun i=>if k:i<len then some (Classical.choose (C i k),Classical.choose (Classical.choose_spec (C i k))) else none
  have N:len=0∨Nonempty (α × Value):=by
   by_cases h0:0<len
   ·obtain ⟨z,u,_⟩:=C 0 h0;exact .inr ⟨(z,u)⟩
   ·exact .inl (by omega)
  rcases N with h0 | ⟨⟨d⟩⟩
  ·subst h0
   exact ⟨[],_,by simp,by simp,rfl,.list (xs:=[]) 0 (fun _=>undef) (Nat.zero_le _) hm (fun i k=>absurd k (by simp)) (fun i k=>absurd k (by simp)) trivial,by simpa using Oy _⟩
  ·let g:Nat→α × Value:=fun i=>if k:i<len then (Classical.choose (C i k),Classical.choose (Classical.choose_spec (C i k))) else d
   have J:∀ i,i<len→p (g i).1∧R W Mem.start W (g i).2 (f (g i).1)∧(∀ h:i<elems.length,m (g i).1≤Rows.uptoBulk elems[i].1)∧(g i).2.cells.size=sz∧∀ j,j<sz→W.cell? ⟨b,off+i*sz+j,none⟩=(g i).2.cells[j]? := fun i k=>by
    have:=Classical.choose_spec (Classical.choose_spec (C i k))
    simp only [g,dif_pos k]
    exact this
   have s:(((List.range len).map fun i=>(g i).1).map f).length=len:=by simp
   refine ⟨(List.range len).map fun i=>(g i).1,.slice (some ⟨b,off,none⟩) len cap,fun z hz=>?_,by simp;omega,rfl,?_,?_⟩
   ·obtain ⟨i,k,rfl⟩:=List.mem_map.1 hz
    exact (J i (by simpa using k)).1
   ·have:=Ev.R.list (w0:=W) (M:=Ev.Mem.start) (w:=W) (b:=b) (off:=off) (cap:=cap) (xs:=((List.range len).map fun i=>(g i).1).map f) (o := .none) sz (fun i=>(g i).2) (by rw [s];exact hl) hm
     (fun i k=>by
      rw [s] at k
      obtain ⟨_,_,_,F,h4⟩:=J i k
      refine ⟨F,fun j G=>⟨.inl ?_,h4 j G⟩⟩
      have:=h4 j G
      rw [Array.getElem?_eq_getElem (by rw [F];exact G)] at this
      exact World.block_lt_of_cell? W _ this) (fun i k=>by
      rw [s] at k
      simp only [List.getElem_map,List.getElem_range]
      exact (J i k).2.1) trivial
    rw [s] at this
    exact this
   ·have:=S7 m ((List.range len).map fun i=>(g i).1) elems (by simp;omega) (fun i E D=>by
     simp only [List.getElem_map,List.getElem_range]
     exact (J i (by omega)).2.2.1 D)
    simp only [Rows.uptoBulk]
    omega
theorem Vl.ones (v:Vl):∀ x∈v.cs,x.one=true:=by
 cases v;intro x hx
 simp only [Vl.cs,List.mem_cons,List.not_mem_nil,or_false] at hx
 rcases hx with rfl | rfl | rfl | rfl | rfl | rfl<;>rfl
theorem Ty.ones (v:Ty):∀ x∈v.cs,x.one=true:=by
 cases v;intro x hx
 simp only [Ty.cs,List.mem_cons,List.not_mem_nil,or_false] at hx
 rcases hx with rfl | rfl | rfl | rfl | rfl | rfl | rfl<;>rfl
theorem Lc:∀ (n:Nat) (cs:List Value) (x:DataW H × List MemPlace),Td enc W n 49 cs=some x→∃ v:Vl,v.wf∧RC W cs v.cs∧v.bulk≤Rows.uptoBulk x.1
 | 0,cs,x,h=>by simp [Td,DataW.trod] at h
 | n+1,cs,x,h=>by
  obtain ⟨xs,n',hn,rfl,u,hx,a⟩:=DataW.trod_struct Tryz.underlying49 h
  cases hn
  have d:cs.length=6:=u.trans (by kernel_rfl)
  have q:xs.length=6:=hx
  match cs,d,xs,q,a with
  | [c0,c1,c2,c3,c4,c5],_,[y0,y1,y2,y3,y4,y5],_,a =>
  have Q:_=some y0:=a 0 _ rfl;have Y:_=some y1:=a 1 _ rfl;have U:_=some y2:=a 2 _ rfl;have K:_=some y3:=a 3 _ rfl;have J:_=some y4:=a 4 _ rfl;have O:_=some y5:=a 5 _ rfl
  obtain ⟨k,Z,ek⟩:=CE Q
  obtain ⟨i,V,ei⟩:=CE Y
  obtain ⟨s,hs,es⟩:=CE U
  obtain ⟨t,G,et,bt⟩:=J7 K
  cases n with
  | zero=>simp [DataW.trod] at J
  | succ n =>
  obtain ⟨l,vl,m,w,el,f,bl⟩:=FI B1 Vl.wf Vl.bulk Tryz.underlying46 (sz:=6) (by kernel_rfl) (by omega) (fun cs x h=>by
   obtain ⟨v,hv,b,F⟩:=Lc n cs x h
   exact ⟨v,.agg cs.toArray,hv,by simp [Value.cells],b.agg v.ones,F⟩) J
  obtain ⟨fl,vf,C,o,ef,r,bf⟩:=FI IC (fun p=>p.1.size≤maxLen∧p.2.wf) (fun p=>p.1.size+p.2.bulk) Tryz.underlying47 (sz:=7) (by kernel_rfl) (by omega) (fun cs x h=>by
   cases n with
   | zero=>simp [DataW.trod] at h
   | succ n =>
   obtain ⟨E,n',hn,rfl,u,hx,a⟩:=DataW.trod_struct Tryz.underlying110 h
   cases hn
   have e:cs.length=7:=u.trans (by kernel_rfl)
   have g:E.length=2:=hx
   match E,g,a with
   | [w0,w1],_,a =>
   have N:_=some w0:=a 0 _ rfl;have q1:_=some w1:=a 1 _ rfl
   obtain ⟨nm,c,en,bn⟩:=J7 N
   obtain ⟨v,hv,b,F⟩:=Lc n _ _ q1
   have e2:Tryz.prog.cellsOf 49=6:=by kernel_rfl
   have e3:Tryz.prog.cellsOf 9=1:=by kernel_rfl
   simp only [List.getElem_toArray,List.getElem_cons_zero,List.getElem_cons_succ,e2,e3] at en b
   match cs,e with
   | [c0,c1,c2,c3,c4,c5,c6],_ =>
   simp only [List.drop_zero,List.take_succ_cons,List.take_zero,List.cons.injEq,and_true,List.drop_succ_cons] at en b
   subst en
   refine ⟨(nm,v),.agg #[.string nm,c1,c2,c3,c4,c5,c6],⟨c,hv⟩,rfl,?_,by simp only [List.map_cons,List.map_nil,Rows.uptoBulk,Rows.uptoBulkAll];omega⟩
   exact RC.agg (cs:=[.string nm,c1,c2,c3,c4,c5,c6]) (.cons (.flat (Ag c)) b) (fun x hx=>by
    rcases List.mem_cons.1 hx with rfl | hx
    ·rfl
    ·exact v.ones x hx)) O
  have y:Tryz.prog.cellsOf 3=1:=by kernel_rfl
  have D:Tryz.prog.cellsOf 9=1:=by kernel_rfl
  have j:Tryz.prog.cellsOf 46=1:=by kernel_rfl
  have z:Tryz.prog.cellsOf 47=1:=by kernel_rfl
  simp only [List.getElem_toArray,List.getElem_cons_zero,List.getElem_cons_succ,y,D,j,z,List.drop_zero,List.take_succ_cons,List.take_zero,List.cons.injEq,and_true,List.drop_succ_cons] at ek ei es et el ef
  subst ek ei es et el ef
  refine ⟨.mk k i s t l fl,?_,?_,by simp only [List.map_cons,List.map_nil,Rows.uptoBulk,Rows.uptoBulkAll,Vl.bulk,MW,QB];omega⟩
  ·unfold Vl.wf
   exact ⟨Z,V,hs,G,w,o,(Vs l).2 m,(Vk fl).2 C⟩
  ·rw [Vl.cs,Oa,Wq]
   exact .cons (.flat rfl) (.cons (.flat rfl) (.cons (.flat rfl) (.cons (.flat (Ag G)) (.cons f (.cons r .nil)))))
theorem Um:∀ (n:Nat) (cs:List Value) (x:DataW H × List MemPlace),Td enc W n 26 cs=some x→∃ v:Ty,v.wf∧RC W cs v.cs∧v.bulk≤Rows.uptoBulk x.1
 | 0,cs,x,h=>by simp [Td,DataW.trod] at h
 | n+1,cs,x,h=>by
  obtain ⟨xs,n',hn,rfl,G,hx,a⟩:=DataW.trod_struct Tryz.underlying26 h
  cases hn
  have f:cs.length=7:=G.trans (by kernel_rfl)
  have F:xs.length=7:=hx
  match cs,f,xs,F,a with
  | [c0,c1,c2,c3,c4,c5,c6],_,[y0,y1,y2,y3,y4,y5,y6],_,a =>
  have f0:_=some y0:=a 0 _ rfl;have f1:_=some y1:=a 1 _ rfl;have f2:_=some y2:=a 2 _ rfl;have f3:_=some y3:=a 3 _ rfl;have f4:_=some y4:=a 4 _ rfl;have f5:_=some y5:=a 5 _ rfl;have f6:_=some y6:=a 6 _ rfl
  obtain ⟨k,hk,ek⟩:=CE f0
  obtain ⟨lo,J,elo⟩:=CE f1
  obtain ⟨hi,O,ehi⟩:=CE f2
  obtain ⟨s,hs,es⟩:=CE f3
  cases n with
  | zero=>simp [DataW.trod] at f4
  | succ n =>
  obtain ⟨w,vw,j,q,ew,D,bw⟩:=FI JR (fun s=>s.size≤maxLen) (fun w=>w.size+1) Tryz.underlying22 (sz:=1) (by kernel_rfl) (by omega) (fun cs x h=>by
   obtain ⟨s,hs,rfl,c⟩:=J7 h
   exact ⟨s,.string s,hs,rfl,.flat (Ag hs),c⟩) f4
  obtain ⟨el,ve,Q,z,ee,i,be⟩:=FI Ef Ty.wf Ty.bulk Tryz.underlying23 (sz:=7) (by kernel_rfl) (by omega) (fun cs x h=>by
   obtain ⟨v,hv,b,c⟩:=Um n cs x h
   exact ⟨v,.agg cs.toArray,hv,by simp [Value.cells],b.agg v.ones,c⟩) f5
  obtain ⟨fl,vf,U,t,ef,E,bf⟩:=FI Gn (fun p=>Ba p.1∧p.2.1.size≤maxLen∧Ba p.2.2.1∧p.2.2.2.1.wf∧p.2.2.2.2.length≤maxLen∧∀ v∈p.2.2.2.2,v.wf) (fun p=>p.2.1.size+p.2.2.2.1.bulk+M7 p.2.2.2.2) Tryz.underlying24 (sz:=11) (by kernel_rfl) (by omega) (fun cs x h=>by
   cases n with
   | zero=>simp [DataW.trod] at h
   | succ n =>
   obtain ⟨Z,n',hn,rfl,G,hx,a⟩:=DataW.trod_struct Tryz.underlying118 h
   cases hn
   have d:cs.length=11:=G.trans (by kernel_rfl)
   have C:Z.length=5:=hx
   match Z,C,a with
   | [w0,w1,w2,w3,w4],_,a =>
   have q0:_=some w0:=a 0 _ rfl;have q1:_=some w1:=a 1 _ rfl;have q2:_=some w2:=a 2 _ rfl;have q3:_=some w3:=a 3 _ rfl;have q4:_=some w4:=a 4 _ rfl
   obtain ⟨y,g,enu⟩:=CE q0
   obtain ⟨nm,e,en,bn⟩:=J7 q1
   obtain ⟨r,o,end'⟩:=CE q2
   obtain ⟨v,hv,b,aa⟩:=Um n _ _ q3
   cases n with
   | zero=>simp [DataW.trod] at q4
   | succ n =>
   obtain ⟨dl,vd,m,V,ed,u,bd⟩:=FI B1 Vl.wf Vl.bulk Tryz.underlying46 (sz:=6) (by kernel_rfl) (by omega) (fun cs x h=>by
    obtain ⟨v,hv,b,c⟩:=Lc n cs x h
    exact ⟨v,.agg cs.toArray,hv,by simp [Value.cells],b.agg v.ones,c⟩) q4
   have e1:Tryz.prog.cellsOf 3=1:=by kernel_rfl
   have e2:Tryz.prog.cellsOf 26=7:=by kernel_rfl
   have e3:Tryz.prog.cellsOf 9=1:=by kernel_rfl
   have e4:Tryz.prog.cellsOf 46=1:=by kernel_rfl
   simp only [List.getElem_toArray,List.getElem_cons_zero,List.getElem_cons_succ,e1,e2,e3,e4] at enu en end' b ed
   match cs,d with
   | [c0,c1,c2,c3,c4,c5,c6,c7,c8,c9,c10],_ =>
   simp only [List.drop_zero,List.take_succ_cons,List.take_zero,List.cons.injEq,and_true,List.drop_succ_cons] at enu en end' b ed
   subst enu en end' ed
   refine ⟨(y,nm,r,v,dl),.agg #[.int .i64 y,.string nm,.int .i64 r,c3,c4,c5,c6,c7,c8,c9,c10],⟨g,e,o,hv,V,m⟩,rfl,?_,by simp only [List.map_cons,List.map_nil,Rows.uptoBulk,Rows.uptoBulkAll,MW];omega⟩
   exact RC.agg (cs:=[.int .i64 y,.string nm,.int .i64 r]++([c3,c4,c5,c6,c7,c8,c9]++[c10])) (.cons (.flat rfl) (.cons (.flat (show Gg (.string nm)=true from Ag e)) (.cons (.flat rfl) (b.app (.cons u .nil))))) (fun x hx=>by
    simp only [List.mem_cons,List.mem_append,List.not_mem_nil,or_false] at hx
    rcases hx with rfl | rfl | rfl | hx | rfl
    ·rfl
    ·rfl
    ·rfl
    ·exact v.ones x hx
    ·rfl)) f6
  have K:Tryz.prog.cellsOf 3=1:=by kernel_rfl
  have Y:Tryz.prog.cellsOf 22=1:=by kernel_rfl
  have l:Tryz.prog.cellsOf 23=1:=by kernel_rfl
  have N:Tryz.prog.cellsOf 24=1:=by kernel_rfl
  simp only [List.getElem_toArray,List.getElem_cons_zero,List.getElem_cons_succ,K,Y,l,N,List.drop_zero,List.take_succ_cons,List.take_zero,List.cons.injEq,and_true,List.drop_succ_cons] at ek elo ehi es ew ee ef
  subst ek elo ehi es ew ee ef
  refine ⟨.mk k lo hi s w el fl,?_,?_,by simp only [List.map_cons,List.map_nil,Rows.uptoBulk,Rows.uptoBulkAll,Ty.bulk,Qo,QQ,O5];omega⟩
  ·unfold Ty.wf
   exact ⟨hk,J,O,hs,j,q,z,t,(WO el).2 Q,(Tf fl).2 U⟩
  ·rw [Ty.cs,Vu,TG,ZbN]
   exact .cons (.flat rfl) (.cons (.flat rfl) (.cons (.flat rfl) (.cons (.flat rfl) (.cons D (.cons i (.cons E .nil))))))
end
section
variable {H:Type} {enc:TypeId × Value→H} {W:World} {base:Nat} {v:Value} {d:DataW H} {p:List MemPlace}
theorem Xc {t:TypeId} {fs:Array Field} (ht:Tryz.prog.underlying t=some (.struct fs)) (hv:Value.okWide Tryz.prog W .any base t v):∃ cs,v = .agg cs:=by
 unfold Value.okWide at hv
 rw [ht] at hv
 obtain ⟨cs,h,_⟩:=hv
 exact ⟨cs,h⟩
end
end Go.Proofs.YtcdnijfbfdnjlaaGreatDoor
namespace Go.Proofs.YtcdnijfbfdnjlaaGreatDoor
open Go Go.RowKit Go.Ev
theorem AH {α:Type} {l:List α} {k:Nat} (h:k<l.length):EA l (k:Int)=some l[k]:=ZjS h
theorem AX {a b:Nat}:decide ((a:Int)<(b:Int))=decide (a<b):=by simp
theorem AG {k:Nat} (h:k<1000000000000):Ba ((k:Int)+1):=by unfold Ba;omega
theorem Ty.size_pos (t:Ty):0<t.size:=by cases t;simp [Ty.size];omega
theorem Ty.size_eq (t:Ty):t.size=1+IU t.elem+FR t.fields:=by cases t;simp [Ty.size,Ty.elem,Ty.fields]
theorem Pq:∀ (l:List (Int × ByteArray × Int × Ty × List Vl)) (p:Int × ByteArray × Int × Ty × List Vl),p∈l→p.2.2.2.1.size≤FR l
 | [],_,h=>by simp at h
 | (a,b,c,t,d)::r,p,h=>by
  rcases List.mem_cons.1 h with rfl | h
  ·simp [FR]
  ·have:=Pq r p h
   simp [FR];omega
theorem Ty.field_size (t:Ty) (p) (h:p∈t.fields):p.2.2.2.1.size<t.size:=by have:=Pq _ _ h;have:=t.size_eq;omega
theorem Vl.list_size (v x:Vl) (h:x∈v.list):x.size<v.size:=by have:=J8 _ _ h;have:=v.size_eq;omega
theorem Vl.field_size (v:Vl) (p) (h:p∈v.fields):p.2.size<v.size:=by have:=J9 _ _ h;have:=v.size_eq;omega
mutual
def Ty.depth:Ty→Nat
 | .mk _ _ _ _ _ e f=>1+max (LV e) (JP f)
def LV:List Ty→Nat
 | []=>0
 | t::r=>max t.depth (LV r)
def JP:List (Int × ByteArray × Int × Ty × List Vl)→Nat
 | []=>0
 | (_,_,_,t,_)::r=>max t.depth (JP r)
end
mutual
def Vl.ok:Vl→Prop
 | .mk _ _ _ t l f=>t.size≤1048576∧Zdd l∧ZcV f
def Zdd:List Vl→Prop
 | []=>True
 | v::r=>v.ok∧Zdd r
def ZcV:List (ByteArray × Vl)→Prop
 | []=>True
 | (n,v)::r=>n.size≤1048576∧v.ok∧ZcV r
end
theorem V3:∀ l,Zdd l↔∀ v∈l,v.ok
 | []=>by simp [Zdd]
 | v::r=>by simp [Zdd,V3 r]
theorem W4:∀ l,ZcV l↔∀ p∈l,p.1.size≤1048576∧p.2.ok
 | []=>by simp [ZcV]
 | (n,v)::r=>by simp [ZcV,W4 r,and_assoc]
def Vl.small (v:Vl):Prop:=v.size≤1048575∧v.depth≤1048576∧v.ok
mutual
def Ty.ok:Ty→Prop
 | .mk _ _ _ _ w e f=>w.length≤1048576∧(∀ x∈w,x.size≤1048576)∧Zbh e∧Wp f
def Zbh:List Ty→Prop
 | []=>True
 | v::r=>v.ok∧Zbh r
def Wp:List (Int × ByteArray × Int × Ty × List Vl)→Prop
 | []=>True
 | (_,n,_,t,d)::r=>(n.size≤1048576∧t.ok∧d.length≤1048576∧∀ v∈d,v.small)∧Wp r
end
theorem VI:∀ l,Zbh l↔∀ v∈l,v.ok
 | []=>by simp [Zbh]
 | v::r=>by simp [Zbh,VI r]
theorem S3:∀ l,Wp l↔∀ p∈l,p.2.1.size≤1048576∧p.2.2.2.1.ok∧p.2.2.2.2.length≤1048576∧∀ v∈p.2.2.2.2,v.small
 | []=>by simp [Wp]
 | (_,n,_,t,d)::r=>by simp [Wp,S3 r]
theorem Ty.ok_eq (t:Ty):t.ok↔t.words.length≤1048576∧(∀ x∈t.words,x.size≤1048576)∧(∀ v∈t.elem,v.ok)∧∀ p∈t.fields,p.2.1.size≤1048576∧p.2.2.2.1.ok∧p.2.2.2.2.length≤1048576∧∀ v∈p.2.2.2.2,v.small:=by
 cases t;simp only [Ty.ok,Ty.words,Ty.elem,Ty.fields,VI,S3]
theorem Vl.ok_eq (v:Vl):v.ok↔v.text.size≤1048576∧(∀ x∈v.list,x.ok)∧∀ p∈v.fields,p.1.size≤1048576∧p.2.ok:=by
 cases v;simp only [Vl.ok,Vl.text,Vl.list,Vl.fields,V3,W4]
theorem QJ:∀ (l:List Ty) (d:Nat),LV l≤d↔∀ v∈l,v.depth≤d
 | [],d=>by simp [LV]
 | v::r,d=>by simp [LV,Nat.max_le,QJ r d]
theorem Py:∀ (l:List (Int × ByteArray × Int × Ty × List Vl)) (d:Nat),JP l≤d↔∀ v∈l,v.2.2.2.1.depth≤d
 | [],d=>by simp [JP]
 | (_,_,_,t,_)::r,d=>by simp [JP,Nat.max_le,Py r d]
theorem Ty.depth_eq (t:Ty):t.depth=1+Max.max (LV t.elem) (JP t.fields):=by cases t;simp [Ty.depth,Ty.elem,Ty.fields]
theorem Vl.eta (v:Vl):Vl.mk v.kind v.int v.scale v.text v.list v.fields=v:=by cases v;rfl
theorem Ty.eta (v:Ty):Ty.mk v.kind v.min v.max v.scale v.words v.elem v.fields=v:=by cases v;rfl
theorem Qq (rec:Vl→Option Vl) (n:Nat) (v:Vl) (hs:v.fields.length≤1000000000000) (hr:∀ p∈v.fields,rec p.2=some p.2) (b:List Vl):∀ (k m i:Nat),i+k=v.fields.length→k<m→FK rec n v m i b (v.fields.take i)=some (Vl.mk v.kind v.int v.scale v.text b v.fields)
 | k,0,i,_,h=>absurd h (Nat.not_lt_zero _)
 | 0,m+1,i,hi,_=>by
  rw [FK,AX,Ac]
  simp only [Bool.false_eq_true,if_false,Jk]
  rw [List.take_of_length_le (by omega)]
 | k+1,m+1,i,hi,hm=>by
  have a:i<v.fields.length:=by omega
  rw [FK,AX,Ag a]
  simp only [if_true,AH a,Ae,hr _ (List.getElem_mem a)]
  rw [Ah (by rw [List.length_take];omega),Ah (AG (by omega))]
  have e:v.fields.take i++[(v.fields[i].1,v.fields[i].2)]=v.fields.take (i+1):=by rw [List.take_succ_eq_append_getElem a]
  rw [e]
  exact Qq rec n v hs hr b k m (i+1) (by omega) (by omega)
theorem S1 (rec:Vl→Option Vl) (n:Nat) (v:Vl) (hs:v.fields.length≤1000000000000∧v.list.length≤1000000000000) (hn:v.fields.length<n) (hr:(∀ x∈v.list,rec x=some x)∧∀ p∈v.fields,rec p.2=some p.2):∀ (k m i:Nat),i+k=v.list.length→k<m→GH rec n v m i (v.list.take i)=some v
 | k,0,i,_,h=>absurd h (Nat.not_lt_zero _)
 | 0,m+1,i,hi,_=>by
  rw [GH,AX,Ac]
  simp only [Bool.false_eq_true,if_false,J4]
  rw [List.take_of_length_le (by omega)]
  have:=Qq rec n v hs.1 hr.2 v.list v.fields.length n 0 (by omega) hn
  rw [List.take_zero] at this
  exact this.trans (by rw [Vl.eta])
 | k+1,m+1,i,hi,hm=>by
  have a:i<v.list.length:=by omega
  rw [GH,AX,Ag a]
  simp only [if_true,AH a,Ae,hr.1 _ (List.getElem_mem a)]
  rw [Ah (by rw [List.length_take];omega),Ah (AG (by omega))]
  have e:v.list.take i++[v.list[i]]=v.list.take (i+1):=by rw [List.take_succ_eq_append_getElem a]
  rw [e]
  exact S1 rec n v hs hn hr k m (i+1) (by omega) (by omega)
theorem MY:∀ (n:Nat) (v:Vl),v.size<n→v.wide=true→EZ n v=some v
 | 0,v,h,_=>absurd h (Nat.not_lt_zero _)
 | n+1,v,h,hs=>by
  have g:=OT v
  obtain ⟨e,f,c,d⟩:=v.wide_iff.1 hs
  rw [EZ,L1]
  have:=S1 (EZ n) n v ⟨by omega,by omega⟩ (by omega) ⟨fun x b=>MY n x (by have:=v.list_size x b;omega) (c x b),fun p a=>MY n p.2 (by have:=v.field_size p a;omega) (d p a)⟩ v.list.length n 0 (by omega) (by omega)
  rw [List.take_zero] at this
  exact this
theorem ON (n:Nat) (v:Vl) (h:v.size<n) (hs:v.size≤1000000000):EZ n v=some v:=MY n v h (H6 _ v (Nat.le_refl _) (by omega))
abbrev TF:=Int × ByteArray × Int × Ty × List Vl
def Ty.small (t:Ty):Prop:=t.size≤600∧t.depth≤12∧t.ok
def E5 (rec:Vl→Int→Option Vl) (n:Nat) (q:Vl) (b:List Vl) (h:List (ByteArray × Vl)):Option Vl :=
 some (Vl.mk q.kind q.int q.scale (q.text.extract 0 ((if 40<(q.text.size:Int) then 40 else (q.text.size:Int))).toNat) b h)
def CW (rec:Vl→Int→Option Vl) (n:Nat) (a0:Vl) (a1:Int):Nat→(List Vl)→(List (ByteArray × Vl))→Int→Option Vl
 | 0,_,_,_=>none
 | m+1,y,h,b =>
  if ((decide (b<(a0.fields.length:Int)))&&(decide (b<6)))&&(decide (1<a1)) then
   (EA a0.fields b).bind fun q =>
   if 0≤0∧0≤(if 40<(q.1.size:Int) then 40 else (q.1.size:Int))∧(if 40<(q.1.size:Int) then 40 else (q.1.size:Int))≤(q.1.size:Int) then
    if Ba (a1-1) then
     (rec q.2 (a1-1)).bind fun y35 =>
     if (h.length+1)*104≤140737488355328∧h.length+1≤4611686018427387904 then
      if Ba (b+1) then
       (CW rec n a0 a1 m) y (h++([(q.1.extract 0 ((if 40<(q.1.size:Int) then 40 else (q.1.size:Int))).toNat,y35)])) (b+1)
      else none
     else none
    else none
   else none
  else
   E5 rec n a0 y h
def FQ (rec:Vl→Int→Option Vl) (n:Nat) (q:Vl) (h:Int) (b:List Vl):Option Vl :=
 CW rec n q h n b ([]) 0
def CX (rec:Vl→Int→Option Vl) (n:Nat) (y:Vl) (q:Int):Nat→(List Vl)→Int→Option Vl
 | 0,_,_=>none
 | m+1,h,b =>
  if ((decide (b<(y.list.length:Int)))&&(decide (b<6)))&&(decide (1<q)) then
   (EA y.list b).bind fun x15 =>
   if Ba (q-1) then
    (rec x15 (q-1)).bind fun y17 =>
    if (h.length+1)*88≤140737488355328∧h.length+1≤4611686018427387904 then
     if Ba (b+1) then
      (CX rec n y q m) (h++([y17])) (b+1)
     else none
    else none
   else none
  else
   FQ rec n y q h
def EQ (rec:Vl→Int→Option Vl) (n:Nat) (b:Vl) (h:Int):Option Vl :=
 if 0≤0∧0≤(if 40<(b.text.size:Int) then 40 else (b.text.size:Int))∧(if 40<(b.text.size:Int) then 40 else (b.text.size:Int))≤(b.text.size:Int) then
  CX rec n b h n ([]) 0
 else none
def AD:Nat→Vl→Int→Option Vl
 | 0,_,_=>none
 | n+1,h,b=>EQ (AD n) n h b
def HZ (w0:World) (F:Vl→Int→Option Vl):Prop:=∀ (B:Ao) (Rw:Au) (L:As) (h:Vl) (b:Int) (r:Vl),F h b=some r→ACalls Tryz.prog w0 21 [.agg (h.cs),Ak b] ⟨B,Rw,L⟩ fun x st=>x = .agg (r.cs)∧st=⟨B,Rw,L⟩
theorem Nu (w0:World) (rec:Vl→Int→Option Vl) (ih:HZ w0 rec) (n:Nat):HZ w0 (EQ rec n):=by
 intro B Rw L a0 a1 r h
 rw [EQ] at h
 refine hd [.cell 4 49] Tryz.func21 Tryz.ntmps21 fun M0 W0 D x y o K w hs=>?_
 simp only [Az]
 refine rg [1,2,4] hs ?_
 obtain ⟨G,h⟩:=An h
 have hs:=Ad (Vl.cs_eqs a0) hs
 refine rg [1,2,4] hs ?_
 refine rg [1,2,4,5] hs ?_
 refine rg [1,2,4,5,6] hs ?_
 refine AB (fun e st=>∃ (t:List Vl) (k:Ev.Own),Ck e st B Rw L [(1,true,Ak a1),(2,true,.box B.length 0),(4,true,.box (B.length+1) 0),(5,true,.list (t.map B1) k),(6,true,.list ([]) .full)] [[Ak a0.kind,Ak a0.int,Ak a0.scale,.val (.string (a0.text.extract 0 ((if 40<(a0.text.size:Int) then 40 else (a0.text.size:Int))).toNat)),.list (a0.list.map B1) .none,.list (a0.fields.map IC) .none],Jc] [(6,t.length,k)] (FQ rec n a0 a1 t=some r)) ?_ ?_
 ·intro K8 F
  refine rg [1,2,4,5,6,7] hs ?_
  apply Ar
  refine Ax (fun m e st=>∃ (g:List Vl) (u:Int) (q:Ev.Own),Ck e st B Rw L [(1,true,Ak a1),(2,true,.box B.length 0),(4,true,.box (B.length+1) 0),(5,true,.list (g.map B1) q),(6,true,.list ([]) .full),(7,true,Ak u)] [[Ak a0.kind,Ak a0.int,Ak a0.scale,.val (.string (a0.text.extract 0 ((if 40<(a0.text.size:Int) then 40 else (a0.text.size:Int))).toNat)),.list (a0.list.map B1) .none,.list (a0.fields.map IC) .none],Jc] [(6,g.length,q)] (CX rec n a0 a1 m g u=some r)) n ⟨([]),0,.full,([]),Rw,ef hs,ef hs,Owns.of_eq ((w).full 6 0) Ey,h⟩ ?_
  rintro ml10 e st ⟨g,u,q,Xl10,Rl10,rfl,rfl,w,h⟩ Ul10 Vl10
  cases ml10 with
  | zero=>cases h
  | succ ml10 =>
  rw [CX] at h
  exact go (tg (a:=([1,2,4,5,6,7,29],([1,2,4,5,6,7],[1,2,4,5,6,7],[1,2,4,5,6,7],()),[1,2,4,5,6],()))) h hs D x y o w (q2 (ae Ny IJ) ih) (q2 F (fun e s=>Vl10 ml10 e s (Nat.lt_succ_self _)))
 ·clear h;rintro e st ⟨t,k,Xk7,Rk7,rfl,rfl,w,h⟩
  rw [FQ] at h
  have E:=w.unders
  simp only [List.mem_cons,List.not_mem_nil,or_false,forall_eq_or_imp,forall_eq] at E
  refine td D x y o w ?_
  refine AB (fun e st=>∃ (j:List Vl) (i:List (ByteArray × Vl)) (p:Ev.Own) (l:Ev.Own),Ck e st B Rw L [(2,true,.box B.length 0),(4,true,.box (B.length+1) 0),(5,true,.list (j.map B1) p),(6,true,.list (i.map IC) l)] [[Ak a0.kind,Ak a0.int,Ak a0.scale,.val (.string (a0.text.extract 0 ((if 40<(a0.text.size:Int) then 40 else (a0.text.size:Int))).toNat)),.list (a0.list.map B1) .none,.list (a0.fields.map IC) .none],Jc] [(6,j.length,p),(7,i.length,l)] (E5 rec n a0 j i=some r)) ?_ ?_
  ·intro K25 z
   refine rg [1,2,4,5,6,8] hs ?_
   apply Ar
   refine Ax (fun m e st=>∃ (b:List Vl) (f:List (ByteArray × Vl)) (v:Int) (c:Ev.Own) (d:Ev.Own),Ck e st B Rw L [(1,true,Ak a1),(2,true,.box B.length 0),(4,true,.box (B.length+1) 0),(5,true,.list (b.map B1) c),(6,true,.list (f.map IC) d),(8,true,Ak v)] [[Ak a0.kind,Ak a0.int,Ak a0.scale,.val (.string (a0.text.extract 0 ((if 40<(a0.text.size:Int) then 40 else (a0.text.size:Int))).toNat)),.list (a0.list.map B1) .none,.list (a0.fields.map IC) .none],Jc] [(6,b.length,c),(7,f.length,d)] (CW rec n a0 a1 m b f v=some r)) n ⟨t,([]),0,k,.full,([]),Rk7,ef hs,ef hs,Owns.of_eq (((w).full 7 0).swap (List.Perm.swap _ _ _)) Ey,h⟩ ?_
   rintro ml27 e st ⟨b,f,v,c,d,Xl27,Rl27,rfl,rfl,w,h⟩ Ul27 Vl27
   cases ml27 with
   | zero=>cases h
   | succ ml27 =>
   rw [CW] at h
   have E:=w.unders
   simp only [List.mem_cons,List.not_mem_nil,or_false,forall_eq_or_imp,forall_eq] at E
   obtain ⟨J,H⟩:=E
   refine td D x y o w ?_
   apply Am;intro K28 C
   refine rg [1,2,4,5,6,8,55] hs ?_
   refine F6 h hs ?_ ?_<;>intro hs h
   rotate_left
   ·refine sx [2,4,5,6] hs z ?_
    exact ⟨b,f,c,d,([]),Rl27,ef hs,ef hs,Owns.of_eq (((w).swap (List.Perm.swap _ _ _)).swap (List.Perm.swap _ _ _)) Ey,h⟩
   exact go (tg (a:=([1,2,4,5,6,8],[27,1,2,4,5,6,8],[1,2,4,5,6,8],()))) h hs D x y o w (q2 (ae ZdP Tn) ih) (q2 C (fun e s=>Vl27 ml27 e s (Nat.lt_succ_self _)))
  ·clear h;rintro e st ⟨j,i,p,l,Xk24,Rk24,rfl,rfl,w,h⟩
   rw [E5] at h
   exact go (tg (a:=([2,4],[4],()))) h hs D x y o w trivial trivial
theorem BV (w0:World):∀ n:Nat,HZ w0 (AD n)
 | 0=>fun _ _ _ _ _ _ h=>(nomatch h)
 | n+1=>Nu w0 (AD n) (BV w0 n) n
def E7 (rec:Ex→Int→Option Ex) (n:Nat) (q:Ex) (h:List Vl) (b:List Ex):Option Ex :=
 some (Ex.mk q.op q.int (q.text.extract 0 ((if 60<(q.text.size:Int) then 60 else (q.text.size:Int))).toNat) h b)
def CS (rec:Ex→Int→Option Ex) (n:Nat) (a0:Ex) (y:Int):Nat→(List Vl)→(List Ex)→Int→Option Ex
 | 0,_,_,_=>none
 | m+1,q,h,b =>
  if ((decide (b<(a0.args.length:Int)))&&(decide (b<4)))&&(decide (1<y)) then
   (EA a0.args b).bind fun x31 =>
   if Ba (y-1) then
    (rec x31 (y-1)).bind fun y33 =>
    if (h.length+1)*80≤140737488355328∧h.length+1≤4611686018427387904 then
     if Ba (b+1) then
      (CS rec n a0 y m) q (h++([y33])) (b+1)
     else none
    else none
   else none
  else
   E7 rec n a0 q h
def FY (rec:Ex→Int→Option Ex) (n:Nat) (q:Ex) (h:Int) (b:List Vl):Option Ex :=
 CS rec n q h n b ([]) 0
def Dt (rec:Ex→Int→Option Ex) (n:Nat) (q:Ex) (a1:Int):Nat→(List Vl)→Int→Option Ex
 | 0,_,_=>none
 | m+1,h,b =>
  if (decide (b<(q.value.length:Int)))&&(decide (b<2)) then
   (EA q.value b).bind fun y =>
   (AD n y 2).bind fun y15 =>
   if (h.length+1)*88≤140737488355328∧h.length+1≤4611686018427387904 then
    if Ba (b+1) then
     (Dt rec n q a1 m) (h++([y15])) (b+1)
    else none
   else none
  else
   FY rec n q a1 h
def ET (rec:Ex→Int→Option Ex) (n:Nat) (b:Ex) (h:Int):Option Ex :=
 if 0≤0∧0≤(if 60<(b.text.size:Int) then 60 else (b.text.size:Int))∧(if 60<(b.text.size:Int) then 60 else (b.text.size:Int))≤(b.text.size:Int) then
  Dt rec n b h n ([]) 0
 else none
def BF:Nat→Ex→Int→Option Ex
 | 0,_,_=>none
 | n+1,h,b=>ET (BF n) n h b
def H2 (w0:World) (F:Ex→Int→Option Ex):Prop:=∀ (B:Ao) (Rw:Au) (L:As) (h:Ex) (b:Int) (r:Ex),F h b=some r→ACalls Tryz.prog w0 43 [.agg (h.cs),Ak b] ⟨B,Rw,L⟩ fun x st=>x = .agg (r.cs)∧st=⟨B,Rw,L⟩
theorem MO (w0:World) (rec:Ex→Int→Option Ex) (ih:H2 w0 rec) (n:Nat):H2 w0 (ET rec n):=by
 intro B Rw L a0 a1 r h
 rw [ET] at h
 refine hd [.cell 4 83] Tryz.func43 Tryz.ntmps43 fun M0 W0 D x y k K w hs=>?_
 simp only [Az]
 refine rg [1,2,4] hs ?_
 obtain ⟨G,h⟩:=An h
 have hs:=Ad (Ex.cs_eqs a0) hs
 refine rg [1,2,4] hs ?_
 refine rg [1,2,4,5] hs ?_
 refine AB (fun e st=>∃ (o:List Vl) (i:Ev.Own),Ck e st B Rw L [(1,true,Ak a1),(2,true,.box B.length 0),(4,true,.box (B.length+1) 0),(5,true,.list (o.map B1) i)] [[Ak a0.op,Ak a0.int,.val (.string (a0.text.extract 0 ((if 60<(a0.text.size:Int) then 60 else (a0.text.size:Int))).toNat)),.list (a0.value.map B1) .none,.list (a0.args.map Gy) .none],[Ak 0,Ak 0,.val (.string (⟨#[]⟩:ByteArray)),.list ([]) .full,.list ([]) .full]] [(6,o.length,i)] (FY rec n a0 a1 o=some r)) ?_ ?_
 ·intro K7 F
  refine rg [1,2,4,5,6] hs ?_
  apply Ar
  refine Ax (fun m e st=>∃ (u:List Vl) (v:Int) (q:Ev.Own),Ck e st B Rw L [(1,true,Ak a1),(2,true,.box B.length 0),(4,true,.box (B.length+1) 0),(5,true,.list (u.map B1) q),(6,true,Ak v)] [[Ak a0.op,Ak a0.int,.val (.string (a0.text.extract 0 ((if 60<(a0.text.size:Int) then 60 else (a0.text.size:Int))).toNat)),.list (a0.value.map B1) .none,.list (a0.args.map Gy) .none],[Ak 0,Ak 0,.val (.string (⟨#[]⟩:ByteArray)),.list ([]) .full,.list ([]) .full]] [(6,u.length,q)] (Dt rec n a0 a1 m u v=some r)) n ⟨([]),0,.full,([]),Rw,ef hs,ef hs,Owns.of_eq ((w).full 6 0) Ey,h⟩ ?_
  rintro ml9 e st ⟨u,v,q,Xl9,Rl9,rfl,rfl,w,h⟩ Ul9 Vl9
  cases ml9 with
  | zero=>cases h
  | succ ml9 =>
  rw [Dt] at h
  exact go (tg (a:=([1,2,4,5,6,25],([1,2,4,5,6],[1,2,4,5,6],[1,2,4,5,6],()),[1,2,4,5],()))) h hs D x y k w (q2 (ae Ny IJ) (BV w0 n)) (q2 F (fun e s=>Vl9 ml9 e s (Nat.lt_succ_self _)))
 ·clear h;rintro e st ⟨o,i,Xk6,Rk6,rfl,rfl,w,h⟩
  rw [FY] at h
  have E:=w.unders
  simp only [List.mem_cons,List.not_mem_nil,or_false,forall_eq_or_imp,forall_eq] at E
  refine td D x y k w ?_
  refine rg [1,2,4,5,7] hs ?_
  refine AB (fun e st=>∃ (g:List Vl) (j:List Ex) (p:Ev.Own) (l:Ev.Own),Ck e st B Rw L [(2,true,.box B.length 0),(4,true,.box (B.length+1) 0),(5,true,.list (g.map B1) p),(7,true,.list (j.map Gy) l)] [[Ak a0.op,Ak a0.int,.val (.string (a0.text.extract 0 ((if 60<(a0.text.size:Int) then 60 else (a0.text.size:Int))).toNat)),.list (a0.value.map B1) .none,.list (a0.args.map Gy) .none],[Ak 0,Ak 0,.val (.string (⟨#[]⟩:ByteArray)),.list ([]) .full,.list ([]) .full]] [(6,g.length,p),(5,j.length,l)] (E7 rec n a0 g j=some r)) ?_ ?_
  ·intro K24 C
   refine rg [1,2,4,5,7,8] hs ?_
   apply Ar
   refine Ax (fun m e st=>∃ (f:List Vl) (d:List Ex) (t:Int) (b:Ev.Own) (c:Ev.Own),Ck e st B Rw L [(1,true,Ak a1),(2,true,.box B.length 0),(4,true,.box (B.length+1) 0),(5,true,.list (f.map B1) b),(7,true,.list (d.map Gy) c),(8,true,Ak t)] [[Ak a0.op,Ak a0.int,.val (.string (a0.text.extract 0 ((if 60<(a0.text.size:Int) then 60 else (a0.text.size:Int))).toNat)),.list (a0.value.map B1) .none,.list (a0.args.map Gy) .none],[Ak 0,Ak 0,.val (.string (⟨#[]⟩:ByteArray)),.list ([]) .full,.list ([]) .full]] [(6,f.length,b),(5,d.length,c)] (CS rec n a0 a1 m f d t=some r)) n ⟨o,([]),0,i,.full,([]),Rk6,ef hs,ef hs,Owns.of_eq (((w).full 5 0).swap (List.Perm.swap _ _ _)) Ey,h⟩ ?_
   rintro ml26 e st ⟨f,d,t,b,c,Xl26,Rl26,rfl,rfl,w,h⟩ Ul26 Vl26
   cases ml26 with
   | zero=>cases h
   | succ ml26 =>
   rw [CS] at h
   have E:=w.unders
   simp only [List.mem_cons,List.not_mem_nil,or_false,forall_eq_or_imp,forall_eq] at E
   obtain ⟨J,H⟩:=E
   refine td D x y k w ?_
   apply Am;intro K27 z
   refine rg [1,2,4,5,7,8,49] hs ?_
   refine F6 h hs ?_ ?_<;>intro hs h
   rotate_left
   ·refine sx [2,4,5,7] hs C ?_
    exact ⟨f,d,b,c,([]),Rl26,ef hs,ef hs,Owns.of_eq (((w).swap (List.Perm.swap _ _ _)).swap (List.Perm.swap _ _ _)) Ey,h⟩
   exact go (tg (a:=([1,2,4,5,7,8],[1,2,4,5,7,8],[1,2,4,5,7,8],()))) h hs D x y k w (q2 (ae Zbl WW) ih) (q2 z (fun e s=>Vl26 ml26 e s (Nat.lt_succ_self _)))
  ·clear h;rintro e st ⟨g,j,p,l,Xk23,Rk23,rfl,rfl,w,h⟩
   rw [E7] at h
   exact go (tg (a:=([2,4],[4],()))) h hs D x y k w trivial trivial
theorem Jw (w0:World):∀ n:Nat,H2 w0 (BF n)
 | 0=>fun _ _ _ _ _ _ h=>(nomatch h)
 | n+1=>MO w0 (BF n) (Jw w0 n) n
def H9 (n:Nat)  (b2_k4_0:List (ByteArray × Ex)):Option ((List (ByteArray × Ex))) :=
 some (b2_k4_0)
def FP (n:Nat) (q:List (ByteArray × Ex)):Nat→Int→(List (ByteArray × Ex))→Option ((List (ByteArray × Ex)))
 | 0,_,_=>none
 | m+1,b,b2_l7_0 =>
  if (decide (b<(q.length:Int)))&&(decide (b<8)) then
   (EA q b).bind fun h =>
   if 0≤0∧0≤(if 60<(h.1.size:Int) then 60 else (h.1.size:Int))∧(if 60<(h.1.size:Int) then 60 else (h.1.size:Int))≤(h.1.size:Int) then
    (BF n h.2 4).bind fun y =>
    if (b2_l7_0.length+1)*96≤140737488355328∧b2_l7_0.length+1≤4611686018427387904 then
     if Ba (b+1) then
      (FP n q m) (b+1) (b2_l7_0++([(h.1.extract 0 ((if 60<(h.1.size:Int) then 60 else (h.1.size:Int))).toNat,y)]))
     else none
    else none
   else none
  else
   H9 n b2_l7_0
def GO (n:Nat) (b:List (ByteArray × Ex)):Option ((List (ByteArray × Ex))) :=
 FP n b n 0 ([])
theorem H8 (w0:World) (n:Nat) (B:Ao) (Rw:Au) (L:As) (a0:List (ByteArray × Ex)) (r:(List (ByteArray × Ex))) (h:GO n a0=some r) :
  ACalls Tryz.prog w0 19 [.agg ([.list (a0.map Bq) .none])] ⟨B,Rw,L⟩ fun x st=>x = .agg ([.list (r.map Bq) .none])∧st=⟨B,Rw,L⟩:=by
 rw [GO] at h
 refine hd [.cell 2 30] Tryz.func19 Tryz.ntmps19 fun M0 W0 p j k i q l hs=>?_
 simp only [Az]
 refine rg [1,2] hs ?_
 refine rg [1,2,3] hs ?_
 refine AB (fun e st=>∃ (b:List (ByteArray × Ex)) (d:Ev.Own),Ck e st B Rw L [(2,true,.box (B.length+1) 0),(3,true,.box (B.length+2) 0)] [[.list (a0.map Bq) .none],[.list ([]) .full],[.list (b.map Bq) d]] [(6,b.length,d)] (H9 n b=some r)) ?_ ?_
 ·intro K5 o
  refine rg [1,2,3,4] hs ?_
  apply Ar
  refine Ax (fun m e st=>∃ (g:Int) (c:List (ByteArray × Ex)) (f:Ev.Own),Ck e st B Rw L [(1,true,.box B.length 0),(2,true,.box (B.length+1) 0),(3,true,.box (B.length+2) 0),(4,true,Ak g)] [[.list (a0.map Bq) .none],[.list ([]) .full],[.list (c.map Bq) f]] [(6,c.length,f)] (FP n a0 m g c=some r)) n ⟨0,([]),.full,([]),Rw,ef hs,ef hs,Owns.of_eq ((l).full 6 0) Ey,h⟩ ?_
  rintro ml7 e st ⟨g,c,f,Xl7,Rl7,rfl,rfl,l,h⟩ Ul7 Vl7
  cases ml7 with
  | zero=>cases h
  | succ ml7 =>
  rw [FP] at h
  exact go (tg (a:=([1,2,3,4,13],([1,2,3,4],[26,1,2,3,4],[1,2,3,4],()),[2,3],()))) h hs p j k i l (q2 (ae Zdt Va) (Jw w0 n)) (q2 o (fun e s=>Vl7 ml7 e s (Nat.lt_succ_self _)))
 ·clear h;rintro e st ⟨b,d,Xk4,Rk4,rfl,rfl,l,h⟩
  rw [H9] at h
  exact go (tg (a:=([2],()))) h hs p j k i l trivial trivial
section
variable {P:Program} {w0:World} {n:Nat} {l:List Oper} {ef dn:List Nat} {F:St→Prop} {T:Env→St→Prop} {k:Nat} {ev:Env} {s:St}
theorem gm1 {i:Nat} (_:Tg i) (hr:LO l ef dn=[i]) (hn:(ef.all fun i=>dn.contains i)=false) (hF:F s) (h:∃ o,l[i]? = some o∧o.guard=none∧dstOk n o.dst∧∃ Post:AV→St→Prop,Qg P w0 (AK true l o ev) s o Post∧∀ v s',Post v s'→Ev.Good P w0 n l ef F T k (i::dn) (Du ev o.dst true v) s'):Ev.Good P w0 n l ef F T (k+1) dn ev s :=
 Ev.Good.mk [i] hr hF (fun q=>by rw [hn] at q;cases q) (fun j hj=>by obtain rfl:=List.mem_singleton.1 hj;exact h)
theorem gm0 {L:List Nat} {nb:Nat} {e2:Env} (_:Tg L) (hr:LO l ef dn=[]) (hF:F s) (hT:DD L ev=e2):Ev.Good P w0 n l ef F (fun ev s'=>Conv w0 n nb ev s' e2 s) (k+1) dn ev s :=
 Ev.Good.mk [] hr hF (fun _=>JL L hT) (fun i hi=>by cases hi)
theorem stI {o:Oper} {v:AV} {s':St} (h:CJ P w0 ev s o v s'):CJ P w0 ev s o v s':=h
theorem kpI {L:List Nat} {e e':Env} (h:DD L e=e'):DD L e=e':=h
end
theorem gd {T F p:Prop} (tL:T) (hs:F) (k:T→F→p:=by
  intro tL hs
  repeat' first
    | ((with_reducible refine gm1 (tgh tL) kr rfl ?_ ?_)<;>replace tL:=tgt tL)
    | (with_reducible apply gm0 tL kr)
    | (apply CP rfl rfl ev
       case' hs=>((simp +decide only [go_sem,Nat.reduceAdd,CJ,hs]);(repeat' apply Ad)<;>first | rfl | exact cl)
       case' hk=>simp +decide only [go_sem,Nat.reduceAdd,hs])
    | ((with_reducible refine stI ?_);simp +decide only [go_sem,Nat.reduceAdd,CJ,hs];(repeat' apply Ad)<;>first | rfl | exact cl)
    | ((with_reducible apply kpI);first | (simp +decide only [go_sem,Nat.reduceAdd,hs];done) | (simp +decide only [go_sem,Nat.reduceAdd,hs];rfl) | (simp +decide only [go_sem,Nat.reduceAdd,and_self,imp_self,hs];done) | (simp +decide only [go_sem,Nat.reduceAdd,and_self,imp_self,hs];rfl))
    | exact ⟨[],_,rfl⟩
    | exact ⟨[],_,_,rfl⟩
    | exact ⟨[],_,_,_,rfl⟩
    | exact ⟨_,_,rfl⟩
    | exact ⟨_,_,_,rfl⟩
    | exact ⟨[],_,by simp only [List.append_nil,List.nil_append]⟩
    | exact ⟨[],_,_,by simp only [List.append_nil,List.nil_append]⟩
    | exact ⟨_,_,by simp only [List.append_nil,List.nil_append]⟩):p:=k tL hs
def FT (rec:Ty→Int→Option Ty) (n:Nat) (h:(List ByteArray)→(List Ty)→(List (Int × ByteArray × Int × Ty × List Vl))→Int→Option Ty) (b:Int) (y:List ByteArray) (x6_k47:List Ty) (q:List (Int × ByteArray × Int × Ty × List Vl)):Option Ty :=
 if Ba (b+1) then
  h y x6_k47 q (b+1)
 else none
def FN (rec:Ty→Int→Option Ty) (n:Nat) (y:Ty) (h:List ByteArray) (b:List Ty) (q:List (Int × ByteArray × Int × Ty × List Vl)):Option Ty :=
 some (Ty.mk y.kind y.min y.max y.scale h b q)
def Et (rec:Ty→Int→Option Ty) (n:Nat) (q:(List ByteArray)→(List Ty)→(List (Int × ByteArray × Int × Ty × List Vl))→Int→Option Ty) (a1:Int) (x10_l42:Int) (b:Int × ByteArray × Int × Ty × List Vl) (x5_k53:List ByteArray) (x6_k53:List Ty) (h:List (Int × ByteArray × Int × Ty × List Vl)) (y:List Vl):Option Ty :=
 if 0≤0∧0≤(if 40<(b.2.1.size:Int) then 40 else (b.2.1.size:Int))∧(if 40<(b.2.1.size:Int) then 40 else (b.2.1.size:Int))≤(b.2.1.size:Int) then
  if Ba (a1-1) then
   (rec b.2.2.2.1 (a1-1)).bind fun y71 =>
   if (h.length+1)*160≤140737488355328∧h.length+1≤4611686018427387904 then
    FT rec n q x10_l42 x5_k53 x6_k53 (h++([(b.1,b.2.1.extract 0 ((if 40<(b.2.1.size:Int) then 40 else (b.2.1.size:Int))).toNat,b.2.2.1,y71,y)]))
   else none
  else none
 else none
def Cm (rec:Ty→Int→Option Ty) (n:Nat) (q:(List ByteArray)→(List Ty)→(List (Int × ByteArray × Int × Ty × List Vl))→Int→Option Ty) (a1:Int) (y:Int) (x50:Int × ByteArray × Int × Ty × List Vl):Nat→(List ByteArray)→(List Ty)→(List (Int × ByteArray × Int × Ty × List Vl))→(List Vl)→Int→Option Ty
 | 0,_,_,_,_,_=>none
 | m+1,x5_l56,x6_l56,x7_l56,h,b =>
  if (decide (b<(x50.2.2.2.2.length:Int)))&&(decide (b<2)) then
   (EA x50.2.2.2.2 b).bind fun x61 =>
   (AD n x61 3).bind fun y62 =>
   if (h.length+1)*88≤140737488355328∧h.length+1≤4611686018427387904 then
    if Ba (b+1) then
     (Cm rec n q a1 y x50 m) x5_l56 x6_l56 x7_l56 (h++([y62])) (b+1)
    else none
   else none
  else
   Et rec n q a1 y x50 x5_l56 x6_l56 x7_l56 h
def Bd (rec:Ty→Int→Option Ty) (n:Nat) (a0:Ty) (a1:Int):Nat→(List ByteArray)→(List Ty)→(List (Int × ByteArray × Int × Ty × List Vl))→Int→Option Ty
 | 0,_,_,_,_=>none
 | m+1,h,q,y,b =>
  if ((decide (b<(a0.fields.length:Int)))&&(decide (b<6)))&&(decide (1<a1)) then
   (EA a0.fields b).bind fun x50 =>
   Cm rec n (Bd rec n a0 a1 m) a1 b x50 n h q y ([]) 0
  else
   FN rec n a0 h q y
def FV (rec:Ty→Int→Option Ty) (n:Nat) (y:Ty) (q:Int) (b:List ByteArray) (h:List Ty):Option Ty :=
 Bd rec n y q n b h ([]) 0
def Do (rec:Ty→Int→Option Ty) (n:Nat) (a0:Ty) (y:Int):Nat→(List ByteArray)→(List Ty)→Int→Option Ty
 | 0,_,_,_=>none
 | m+1,q,h,b =>
  if ((decide (b<(a0.elem.length:Int)))&&(decide (b<2)))&&(decide (1<y)) then
   (EA a0.elem b).bind fun x30 =>
   if Ba (y-1) then
    (rec x30 (y-1)).bind fun y32 =>
    if (h.length+1)*104≤140737488355328∧h.length+1≤4611686018427387904 then
     if Ba (b+1) then
      (Do rec n a0 y m) q (h++([y32])) (b+1)
     else none
    else none
   else none
  else
   FV rec n a0 y q h
def Gv (rec:Ty→Int→Option Ty) (n:Nat) (q:Ty) (h:Int) (b:List ByteArray):Option Ty :=
 Do rec n q h n b ([]) 0
def DN (rec:Ty→Int→Option Ty) (n:Nat) (y:Ty) (a1:Int):Nat→(List ByteArray)→Int→Option Ty
 | 0,_,_=>none
 | m+1,h,b =>
  if (decide (b<(y.words.length:Int)))&&(decide (b<6)) then
   (EA y.words b).bind fun q =>
   if 0≤0∧0≤(if 40<(q.size:Int) then 40 else (q.size:Int))∧(if 40<(q.size:Int) then 40 else (q.size:Int))≤(q.size:Int) then
    if (h.length+1)*16≤140737488355328∧h.length+1≤4611686018427387904 then
     if Ba (b+1) then
      (DN rec n y a1 m) (h++([q.extract 0 ((if 40<(q.size:Int) then 40 else (q.size:Int))).toNat])) (b+1)
     else none
    else none
   else none
  else
   Gv rec n y a1 h
def FM (rec:Ty→Int→Option Ty) (n:Nat) (h:Ty) (b:Int):Option Ty :=
 DN rec n h b n ([]) 0
def BD:Nat→Ty→Int→Option Ty
 | 0,_,_=>none
 | n+1,h,b=>FM (BD n) n h b
def IQ (w0:World) (F:Ty→Int→Option Ty):Prop:=∀ (B:Ao) (Rw:Au) (L:As) (h:Ty) (b:Int) (r:Ty),F h b=some r→ACalls Tryz.prog w0 20 [.agg (h.cs),Ak b] ⟨B,Rw,L⟩ fun x st=>x = .agg (r.cs)∧st=⟨B,Rw,L⟩
theorem NZ (w0:World) (rec:Ty→Int→Option Ty) (ih:IQ w0 rec) (n:Nat):IQ w0 (FM rec n):=by
 intro B Rw L a0 a1 r h
 rw [FM] at h
 refine hd [.cell 4 26] Tryz.func20 Tryz.ntmps20 fun M0 W0 hN a3 a4 j hu i hs=>?_
 simp only [Az]
 refine rg [1,2,4] hs ?_
 refine rg [1,2,4,5] hs ?_
 refine rg [1,2,4,5,6] hs ?_
 refine rg [1,2,4,5,6,7] hs ?_
 refine AB (fun e st=>∃ (ay:List ByteArray) (ar:Ev.Own),Ck e st B Rw L [(1,true,Ak a1),(2,true,.box B.length 0),(4,true,.box (B.length+1) 0),(5,true,.list (ay.map JR) ar),(6,true,.list ([]) .full),(7,true,.list ([]) .full)] [a0.cs,[Ak 0,Ak 0,Ak 0,Ak 0,.list ([]) .full,.list ([]) .full,.list ([]) .full]] [(1,ay.length,ar)] (Gv rec n a0 a1 ay=some r)) ?_ ?_
 ·intro K7 bz
  refine rg [1,2,4,5,6,7,8] hs ?_
  apply Ar
  refine Ax (fun m e st=>∃ (a7:List ByteArray) (a9:Int) (a8:Ev.Own),Ck e st B Rw L [(1,true,Ak a1),(2,true,.box B.length 0),(4,true,.box (B.length+1) 0),(5,true,.list (a7.map JR) a8),(6,true,.list ([]) .full),(7,true,.list ([]) .full),(8,true,Ak a9)] [a0.cs,[Ak 0,Ak 0,Ak 0,Ak 0,.list ([]) .full,.list ([]) .full,.list ([]) .full]] [(1,a7.length,a8)] (DN rec n a0 a1 m a7 a9=some r)) n ⟨([]),0,.full,([]),Rw,ef hs,ef hs,Owns.of_eq ((i).full 1 0) Ey,h⟩ ?_
  rintro ml9 e st ⟨a7,a9,a8,Xl9,Rl9,rfl,rfl,i,h⟩ Ul9 Vl9
  cases ml9 with
  | zero=>cases h
  | succ ml9 =>
  rw [DN] at h
  exact go (tg (a:=([1,2,4,5,6,7,8,22],([1,2,4,5,6,7,8],[15,1,2,4,5,6,7,8],[1,2,4,5,6,7,8],()),[1,2,4,5,6,7],()))) h hs hN a3 a4 j i (q1 (ae ZiU Zf5)) (q2 bz (fun e s=>Vl9 ml9 e s (Nat.lt_succ_self _)))
 ·clear h;rintro e st ⟨ay,ar,Xk6,Rk6,rfl,rfl,i,h⟩
  rw [Gv] at h
  have hU:=i.unders
  simp only [List.mem_cons,List.not_mem_nil,or_false,forall_eq_or_imp,forall_eq] at hU
  refine td hN a3 a4 j i ?_
  refine AB (fun e st=>∃ (ab:List ByteArray) (ai:List Ty) (aj:Ev.Own) (am:Ev.Own),Ck e st B Rw L [(1,true,Ak a1),(2,true,.box B.length 0),(4,true,.box (B.length+1) 0),(5,true,.list (ab.map JR) aj),(6,true,.list (ai.map Ef) am),(7,true,.list ([]) .full)] [a0.cs,[Ak 0,Ak 0,Ak 0,Ak 0,.list ([]) .full,.list ([]) .full,.list ([]) .full]] [(1,ab.length,aj),(7,ai.length,am)] (FV rec n a0 a1 ab ai=some r)) ?_ ?_
  ·intro K23 bo
   refine rg [1,2,4,5,6,7,9] hs ?_
   apply Ar
   refine Ax (fun m e st=>∃ (V:List ByteArray) (ag:List Ty) (a6:Int) (aa:Ev.Own) (Q:Ev.Own),Ck e st B Rw L [(1,true,Ak a1),(2,true,.box B.length 0),(4,true,.box (B.length+1) 0),(5,true,.list (V.map JR) aa),(6,true,.list (ag.map Ef) Q),(7,true,.list ([]) .full),(9,true,Ak a6)] [a0.cs,[Ak 0,Ak 0,Ak 0,Ak 0,.list ([]) .full,.list ([]) .full,.list ([]) .full]] [(1,V.length,aa),(7,ag.length,Q)] (Do rec n a0 a1 m V ag a6=some r)) n ⟨ay,([]),0,ar,.full,([]),Rk6,ef hs,ef hs,Owns.of_eq (((i).full 7 0).swap (List.Perm.swap _ _ _)) Ey,h⟩ ?_
   rintro ml25 e st ⟨V,ag,a6,aa,Q,Xl25,Rl25,rfl,rfl,i,h⟩ Ul25 Vl25
   cases ml25 with
   | zero=>cases h
   | succ ml25 =>
   rw [Do] at h
   have hU:=i.unders
   simp only [List.mem_cons,List.not_mem_nil,or_false,forall_eq_or_imp,forall_eq] at hU
   obtain ⟨ba,bb⟩:=hU
   refine td hN a3 a4 j i ?_
   apply Am;intro K26 bs
   refine rg [1,2,4,5,6,7,9,53] hs ?_
   refine F6 h hs ?_ ?_<;>intro hs h
   rotate_left
   ·refine sx [1,2,4,5,6,7] hs bo ?_
    exact ⟨V,ag,aa,Q,([]),Rl25,ef hs,ef hs,Owns.of_eq (((i).swap (List.Perm.swap _ _ _)).swap (List.Perm.swap _ _ _)) Ey,h⟩
   exact go (tg (a:=([1,2,4,5,6,7,9],[1,2,4,5,6,7,9],[1,2,4,5,6,7,9],()))) h hs hN a3 a4 j i (q2 (ae Zcq Vx) ih) (q2 bs (fun e s=>Vl25 ml25 e s (Nat.lt_succ_self _)))
  ·clear h;rintro e st ⟨ab,ai,aj,am,Xk22,Rk22,rfl,rfl,i,h⟩
   rw [FV] at h
   have hU:=i.unders
   simp only [List.mem_cons,List.not_mem_nil,or_false,forall_eq_or_imp,forall_eq] at hU
   obtain ⟨ba,bb⟩:=hU
   refine td hN a3 a4 j i ?_
   refine AB (fun e st=>∃ (au:List ByteArray) (av:List Ty) (aq:List (Int × ByteArray × Int × Ty × List Vl)) (ax:Ev.Own) (aw:Ev.Own) (az:Ev.Own),Ck e st B Rw L [(2,true,.box B.length 0),(4,true,.box (B.length+1) 0),(5,true,.list (au.map JR) ax),(6,true,.list (av.map Ef) aw),(7,true,.list (aq.map Gn) az)] [a0.cs,[Ak 0,Ak 0,Ak 0,Ak 0,.list ([]) .full,.list ([]) .full,.list ([]) .full]] [(1,au.length,ax),(7,av.length,aw),(11,aq.length,az)] (FN rec n a0 au av aq=some r)) ?_ ?_
   ·intro K40 bv
    refine rg [1,2,4,5,6,7,10] hs ?_
    apply Ar
    refine Ax (fun m e st=>∃ (J:List ByteArray) (N:List Ty) (G:List (Int × ByteArray × Int × Ty × List Vl)) (c:Int) (t:Ev.Own) (x:Ev.Own) (v:Ev.Own),Ck e st B Rw L [(1,true,Ak a1),(2,true,.box B.length 0),(4,true,.box (B.length+1) 0),(5,true,.list (J.map JR) t),(6,true,.list (N.map Ef) x),(7,true,.list (G.map Gn) v),(10,true,Ak c)] [a0.cs,[Ak 0,Ak 0,Ak 0,Ak 0,.list ([]) .full,.list ([]) .full,.list ([]) .full]] [(1,J.length,t),(7,N.length,x),(11,G.length,v)] (Bd rec n a0 a1 m J N G c=some r)) n ⟨ab,ai,([]),0,aj,am,.full,([]),Rk22,ef hs,ef hs,Owns.of_eq ((((i).full 11 0).swap ((List.Perm.cons _ (List.Perm.swap _ _ _)).trans (List.Perm.swap _ _ _))).swap ((List.Perm.cons _ (List.Perm.swap _ _ _)).trans (List.Perm.swap _ _ _))) Ey,h⟩ ?_
    rintro ml42 e st ⟨J,N,G,c,t,x,v,Xl42,Rl42,rfl,rfl,i,h⟩ Ul42 Vl42
    cases ml42 with
    | zero=>cases h
    | succ ml42 =>
    rw [Bd] at h
    have hU:=i.unders
    simp only [List.mem_cons,List.not_mem_nil,or_false,forall_eq_or_imp,forall_eq] at hU
    obtain ⟨ba,bb,bl⟩:=hU
    refine td hN a3 a4 j i ?_
    apply Am;intro K43 bg
    refine rg [1,2,4,5,6,7,10,79] hs ?_
    refine F6 h hs ?_ ?_<;>intro hs h
    rotate_left
    ·have a5:=hs.1
     refine sx [2,4,5,6,7] hs bv ?_
     exact ⟨J,N,G,t,x,v,([]),Rl42,ef hs,ef hs,Owns.of_eq ((((i).swap ((List.Perm.cons _ (List.Perm.swap _ _ _)).trans (List.Perm.swap _ _ _))).swap ((List.Perm.cons _ (List.Perm.swap _ _ _)).trans (List.Perm.swap _ _ _))).swap ((List.Perm.cons _ (List.Perm.swap _ _ _)).trans (List.Perm.swap _ _ _))) Ey,h⟩
    have a5:=hs.1
    refine sk [1,2,4,5,6,7,10] hs bg ?_
    clear bg
    refine AB (fun e st=>∃ (ad:List ByteArray) (af:List Ty) (ah:List (Int × ByteArray × Int × Ty × List Vl)) (Y:Ev.Own) (Z:Ev.Own) (U:Ev.Own),Ck e st B Rw L [(1,true,Ak a1),(2,true,.box B.length 0),(4,true,.box (B.length+1) 0),(5,true,.list (ad.map JR) Y),(6,true,.list (af.map Ef) Z),(7,true,.list (ah.map Gn) U),(10,true,Ak c)] [a0.cs,[Ak 0,Ak 0,Ak 0,Ak 0,.list ([]) .full,.list ([]) .full,.list ([]) .full]] [(1,ad.length,Y),(7,af.length,Z),(11,ah.length,U)] (FT rec n (Bd rec n a0 a1 ml42) c ad af ah=some r)) ?_ ?_
    ·intro K48 bu
     apply Ar
     obtain ⟨b,bt,h⟩:=bind_some h
     obtain ⟨b3,bx,bm⟩:=Fq bt
     have O:=Fe (f:=Gn) bm
     have hs:=Ad O hs
     refine rg [1,2,4,5,6,7,10,11] hs ?_
     refine rg [1,2,4,5,6,7,10,11,12] hs ?_
     refine AB (fun e st=>∃ (H:List ByteArray) (K:List Ty) (l:List (Int × ByteArray × Int × Ty × List Vl)) (g:List Vl) (w:Ev.Own) (u:Ev.Own) (a2:Ev.Own) (k:Ev.Own),Ck e st B Rw L [(1,true,Ak a1),(2,true,.box B.length 0),(4,true,.box (B.length+1) 0),(5,true,.list (H.map JR) w),(6,true,.list (K.map Ef) u),(7,true,.list (l.map Gn) a2),(10,true,Ak c),(11,true,.box (B.length+2) 0),(12,true,.list (g.map B1) k)] [a0.cs,[Ak 0,Ak 0,Ak 0,Ak 0,.list ([]) .full,.list ([]) .full,.list ([]) .full],Ak b.1::(.val (.string b.2.1)::(Ak b.2.2.1::((b.2.2.2.1.cs)++([.list (b.2.2.2.2.map B1) .none]))))] [(1,H.length,w),(7,K.length,u),(11,l.length,a2),(6,g.length,k)] (Et rec n (Bd rec n a0 a1 ml42) a1 c b H K l g=some r)) ?_ ?_
     ·intro K54 bq
      refine rg [1,2,4,5,6,7,10,11,12,13] hs ?_
      apply Ar
      refine Ax (fun m e st=>∃ (E:List ByteArray) (F:List Ty) (D:List (Int × ByteArray × Int × Ty × List Vl)) (d:List Vl) (ak:Int) (q:Ev.Own) (z:Ev.Own) (p:Ev.Own) (C:Ev.Own),Ck e st B Rw L [(1,true,Ak a1),(2,true,.box B.length 0),(4,true,.box (B.length+1) 0),(5,true,.list (E.map JR) q),(6,true,.list (F.map Ef) z),(7,true,.list (D.map Gn) p),(10,true,Ak c),(11,true,.box (B.length+2) 0),(12,true,.list (d.map B1) C),(13,true,Ak ak)] [a0.cs,[Ak 0,Ak 0,Ak 0,Ak 0,.list ([]) .full,.list ([]) .full,.list ([]) .full],Ak b.1::(.val (.string b.2.1)::(Ak b.2.2.1::((b.2.2.2.1.cs)++([.list (b.2.2.2.2.map B1) .none]))))] [(1,E.length,q),(7,F.length,z),(11,D.length,p),(6,d.length,C)] (Cm rec n (Bd rec n a0 a1 ml42) a1 c b m E F D d ak=some r)) n ⟨J,N,G,([]),0,t,x,v,.full,([]),Rl42,ef hs,ef hs,Owns.of_eq (((((i).full 6 0).swap ((List.Perm.cons _ ((List.Perm.cons _ (List.Perm.swap _ _ _)).trans (List.Perm.swap _ _ _))).trans (List.Perm.swap _ _ _))).swap ((List.Perm.cons _ ((List.Perm.cons _ (List.Perm.swap _ _ _)).trans (List.Perm.swap _ _ _))).trans (List.Perm.swap _ _ _))).swap ((List.Perm.cons _ ((List.Perm.cons _ (List.Perm.swap _ _ _)).trans (List.Perm.swap _ _ _))).trans (List.Perm.swap _ _ _))) Ey,h⟩ ?_
      rintro ml56 e st ⟨E,F,D,d,ak,q,z,p,C,Xl56,Rl56,rfl,rfl,i,h⟩ Ul56 Vl56
      cases ml56 with
      | zero=>cases h
      | succ ml56 =>
      rw [Cm] at h
      have hU:=i.unders
      simp only [List.mem_cons,List.not_mem_nil,or_false,forall_eq_or_imp,forall_eq] at hU
      obtain ⟨ba,bb,bl,bw⟩:=hU
      refine td hN a3 a4 j i ?_
      apply Am;intro K57 bf
      refine rg [1,2,4,5,6,7,10,11,12,13,95] hs ?_
      refine F6 h hs ?_ ?_<;>intro hs h
      rotate_left
      ·refine sx [1,2,4,5,6,7,10,11,12] hs bq ?_
       exact ⟨E,F,D,d,q,z,p,C,([]),Rl56,ef hs,ef hs,Owns.of_eq (((((i).swap ((List.Perm.cons _ ((List.Perm.cons _ (List.Perm.swap _ _ _)).trans (List.Perm.swap _ _ _))).trans (List.Perm.swap _ _ _))).swap ((List.Perm.cons _ ((List.Perm.cons _ (List.Perm.swap _ _ _)).trans (List.Perm.swap _ _ _))).trans (List.Perm.swap _ _ _))).swap ((List.Perm.cons _ ((List.Perm.cons _ (List.Perm.swap _ _ _)).trans (List.Perm.swap _ _ _))).trans (List.Perm.swap _ _ _))).swap ((List.Perm.cons _ ((List.Perm.cons _ (List.Perm.swap _ _ _)).trans (List.Perm.swap _ _ _))).trans (List.Perm.swap _ _ _))) Ey,h⟩
      refine sk [1,2,4,5,6,7,10,11,12,13] hs bf ?_
      clear bf
      apply Am;intro K60 bi
      apply Ar
      obtain ⟨b1,b2,b4,bn,h⟩:=ix B1 h
      obtain ⟨b0,bp,h⟩:=bind_some h
      obtain ⟨bk,h⟩:=An h
      have i:=i.swap ((List.Perm.cons _ ((List.Perm.cons _ (List.Perm.swap _ _ _)).trans (List.Perm.swap _ _ _))).trans (List.Perm.swap _ _ _))
      obtain ⟨b5,bc,i,ap⟩:=i.append (P:=Tryz.prog) Ny (by rw [IJ];rfl) (by decide) 1 bk.1 bk.2
      replace ap:=fun (ys:List AV) B L o2=>ap (d.map B1) ys B L o2 Ey
      replace ap:=fun (y:AV) B L o2=>ap [y] B L o2 Ey ev
      try simp only [List.mem_singleton,List.mem_cons,List.not_mem_nil,or_false,forall_eq_or_imp,forall_eq,List.map_append,List.map_cons,List.map_nil,IX,Iu,Il,IA,Ip,IR,G8,GX,Ir,EP,ES,Hf,Hk,GV,Iz,Hj,IE] at ap
      have hs:=Ad bn hs
      have hs:=Ad ap hs
      refine rk 2 [1,2,4,5,6,7,10,11,12,13] hs ?_
      refine Aw _ (BV w0 n _ _ _ b1 3 _ bp) (hv hs) ?_
      refine ne hs bi ?_
      clear bi
      obtain ⟨b8,h⟩:=An h
      refine rl [1,2,4,5,6,7,10,11,12,13] hs (fun e s=>Vl56 ml56 e s (Nat.lt_succ_self _)) ?_
      exact ⟨E,F,D,(d++([b0])),(ak+1),q,z,p,b5,([]),bc,ef hs,ef hs,Owns.of_eq ((((i).swap ((List.Perm.cons _ ((List.Perm.cons _ (List.Perm.swap _ _ _)).trans (List.Perm.swap _ _ _))).trans (List.Perm.swap _ _ _))).swap ((List.Perm.cons _ ((List.Perm.cons _ (List.Perm.swap _ _ _)).trans (List.Perm.swap _ _ _))).trans (List.Perm.swap _ _ _))).swap ((List.Perm.cons _ ((List.Perm.cons _ (List.Perm.swap _ _ _)).trans (List.Perm.swap _ _ _))).trans (List.Perm.swap _ _ _))) Ey,h⟩
     ·clear h;rintro e st ⟨H,K,l,g,w,u,a2,k,Xk53,Rk53,rfl,rfl,i,h⟩
      rw [Et] at h
      have hU:=i.unders
      simp only [List.mem_cons,List.not_mem_nil,or_false,forall_eq_or_imp,forall_eq] at hU
      obtain ⟨ba,bb,bl,bw⟩:=hU
      refine td hN a3 a4 j i ?_
      apply Am;intro K68 be
      obtain ⟨b6,h⟩:=An h
      obtain ⟨b9,h⟩:=An h
      obtain ⟨o,bj,h⟩:=bind_some h
      apply Lj PQ [14,16,18] [1,3,8] [1,2,4,5,6,7,10,11] kr (fun s=>∃ (X:Ao) (rows:Au) (c2:List AV),s=⟨B++([a0.cs,[Ak 0,Ak 0,Ak 0,Ak 0,.list ([]) .full,.list ([]) .full,.list ([]) .full],c2]++X),rows,L⟩) 4 (B.length+3)
      ·simp +decide only [go_sem,Nat.reduceAdd]
      ·refine ⟨2,?_⟩
       rw [Ap];simp +decide only [go_sem,Nat.reduceAdd,Bj,a5,O,Ty.cs_eqs b.2.2.2.1,Ty.cs_eqs o]
       have hs:=Ad (Ty.cs_eqs b.2.2.2.1) hs
       have hs:=Ad (Ty.cs_eqs o) hs
       (repeat' apply Ad)<;>first | refine Aw _ (ih _ _ _ b.2.2.2.1 (a1-1) _ bj) (hv hs) ?_ | exact cl
       rw [Ap];simp +decide only [go_sem,Nat.reduceAdd,a5,O,Ty.cs_eqs b.2.2.2.1,Ty.cs_eqs o]
       (repeat' apply Ad)<;>first | rfl | exact cl
      ·rintro s ⟨X,rows,c2,rfl⟩
       refine ⟨2,?_⟩
       rw [Ap];simp +decide only [go_sem,Nat.reduceAdd,Bj,List.append_eq,List.cons_append,List.nil_append,a5,O,Ty.cs_eqs b.2.2.2.1,Ty.cs_eqs o]
       have hs:=Ad (Ty.cs_eqs b.2.2.2.1) hs
       have hs:=Ad (Ty.cs_eqs o) hs
       (repeat' apply Ad)<;>first | refine Aw _ (ih _ _ _ b.2.2.2.1 (a1-1) _ bj) (hv hs) ?_ | exact cl
       rw [Ap];simp +decide only [go_sem,Nat.reduceAdd,a5,O,Ty.cs_eqs b.2.2.2.1,Ty.cs_eqs o]
       (repeat' apply Ad)<;>first | rfl | ((repeat (first | exact .nil | refine .cons (ef hs) ?_));done) | exact cl
      ·exact gd (tg (a:=(14,16,18,[1,2,4,5,6,7,10,11]))) (Ad (Ty.cs_eqs o) (Ad (Ty.cs_eqs b.2.2.2.1) (Ad O hs)))
      simp +decide only [go_sem,Nat.reduceAdd,a5,O,Ty.cs_eqs b.2.2.2.1,Ty.cs_eqs o]
      (repeat' apply Ad)<;>first | refine be _ _ ?_ | exact cl
      clear be
      obtain ⟨bh,h⟩:=An h
      have i:=i.swap ((List.Perm.cons _ (List.Perm.swap _ _ _)).trans (List.Perm.swap _ _ _))
      obtain ⟨br,bd,i,ao⟩:=i.append (P:=Tryz.prog) ZiV (by rw [ZE];rfl) (by decide) 1 bh.1 bh.2
      replace ao:=fun (ys:List AV) B L o2=>ao (l.map Gn) ys B L o2 Ey
      replace ao:=fun (y:AV) B L o2=>ao [y] B L o2 Ey ev
      try simp only [List.mem_singleton,List.mem_cons,List.not_mem_nil,or_false,forall_eq_or_imp,forall_eq,List.map_append,List.map_cons,List.map_nil,IX,Iu,Il,IA,Ip,IR,G8,GX,Ir,EP,ES,Hf,Hk,GV,Iz,Hj,IE] at ao
      have hs:=Ad (Ty.cs_eqs b.2.2.2.1) hs
      have hs:=Ad (Ty.cs_eqs o) hs
      have hs:=Ad ao hs
      refine rl [1,2,4,5,6,7,10] hs bu ?_
      exact ⟨H,K,(l++([(b.1,b.2.1.extract 0 ((if 40<(b.2.1.size:Int) then 40 else (b.2.1.size:Int))).toNat,b.2.2.1,o,g)])),w,u,br,([[Ak b.1,.val (.string (b.2.1.extract 0 ((if 40<(b.2.1.size:Int) then 40 else (b.2.1.size:Int))).toNat)),Ak b.2.2.1,Ak o.kind,Ak o.min,Ak o.max,Ak o.scale,.list (o.words.map JR) .none,.list (o.elem.map Ef) .none,.list (o.fields.map Gn) .none,.list (g.map B1) k]]),bd,ef hs,ef hs,Owns.of_eq ((((i).swap ((List.Perm.cons _ (List.Perm.swap _ _ _)).trans (List.Perm.swap _ _ _))).swap ((List.Perm.cons _ (List.Perm.swap _ _ _)).trans (List.Perm.swap _ _ _))).sub (List.sublist_append_left [(1,H.length,w),(7,K.length,u),(11,l.length+1,br)] [(6,g.length,k)])) Ey,h⟩
    ·clear h;rintro e st ⟨ad,af,ah,Y,Z,U,Xk47,Rk47,rfl,rfl,i,h⟩
     rw [FT] at h
     have hU:=i.unders
     simp only [List.mem_cons,List.not_mem_nil,or_false,forall_eq_or_imp,forall_eq] at hU
     obtain ⟨ba,bb,bl⟩:=hU
     refine td hN a3 a4 j i ?_
     obtain ⟨b7,h⟩:=An h
     refine rl [1,2,4,5,6,7,10] hs (fun e s=>Vl42 ml42 e s (Nat.lt_succ_self _)) ?_
     exact ⟨ad,af,ah,(c+1),Y,Z,U,([]),Rk47,ef hs,ef hs,Owns.of_eq ((((i).swap ((List.Perm.cons _ (List.Perm.swap _ _ _)).trans (List.Perm.swap _ _ _))).swap ((List.Perm.cons _ (List.Perm.swap _ _ _)).trans (List.Perm.swap _ _ _))).swap ((List.Perm.cons _ (List.Perm.swap _ _ _)).trans (List.Perm.swap _ _ _))) Ey,h⟩
   ·clear h;rintro e st ⟨au,av,aq,ax,aw,az,Xk39,Rk39,rfl,rfl,i,h⟩
    rw [FN] at h
    exact go (tg (a:=([2,4],[4],()))) h (Ad (Ty.cs_eqs a0) hs) hN a3 a4 j i trivial trivial
theorem Gt (w0:World):∀ n:Nat,IQ w0 (BD n)
 | 0=>fun _ _ _ _ _ _ h=>(nomatch h)
 | n+1=>NZ w0 (BD n) (Gt w0 n) n
theorem Ls (b:ByteArray) {c:Int} (hc:0≤c):(0:Nat)≤0∧(0:Int)≤(if c<(b.size:Int) then c else (b.size:Int))∧(if c<(b.size:Int) then c else (b.size:Int))≤(b.size:Int):=by
 refine ⟨Nat.le_refl _,?_,?_⟩<;>split<;>omega
theorem Lm (b:ByteArray) {c:Int} (hc:0≤c):((b.extract 0 ((if c<(b.size:Int) then c else (b.size:Int))).toNat).size:Int)≤c:=by
 rw [ByteArray.size_extract];split<;>omega
theorem RB:∀ (l:List Vl) (w:Vl),EJ (l++[w])=EJ l+w.size
 | [],w=>by simp [EJ]
 | x::l,w=>by rw [List.cons_append,EJ,RB l w,EJ];omega
theorem Px:∀ (l:List (ByteArray × Vl)) (w:ByteArray × Vl),Fv (l++[w])=Fv l+w.2.size
 | [],(a,w)=>by simp [Fv]
 | (a,x)::l,w=>by rw [List.cons_append,Fv,Px l w,Fv];omega
theorem Qu:∀ (l:List Ty) (w:Ty),IU (l++[w])=IU l+w.size
 | [],w=>by simp [IU]
 | x::l,w=>by rw [List.cons_append,IU,Qu l w,IU];omega
theorem O4:∀ (l:List TF) (w:TF),FR (l++[w])=FR l+w.2.2.2.1.size
 | [],(a,b,c,w,d)=>by simp [FR]
 | (a,b,c,x,d)::l,w=>by rw [List.cons_append,FR,O4 l w,FR];omega
theorem Ee {α:Type} {p:α→Prop} {l:List α} {x:α} (h:∀ y∈l,p y) (hx:p x):∀ y∈l++[x],p y:=by
 intro y hy
 rcases List.mem_append.1 hy with hy | hy
 ·exact h y hy
 ·rw [List.mem_singleton.1 hy];exact hx
theorem Dz {α:Type} (l:List α) (x:α):(l++[x]).length=l.length+1:=by simp
def szV:Nat→Nat
 | 0=>0
 | d+1=>1+12*szV d
theorem Zdj (rec:Vl→Int→Option Vl) (n:Nat) (v:Vl) (a:Int) (K:Nat) (hI:Ba (a-1)) (hr:1<a→∀ x,∃ w,rec x (a-1)=some w∧w.size≤K∧w.ok) (l:List Vl) (hl:EJ l≤6*K) (ho:∀ x∈l,x.ok) :
  ∀ (m k i:Nat) (f:List (ByteArray × Vl)),i+k=6→k<m→f.length=i→Fv f≤i*K→(∀ p∈f,p.1.size≤1048576∧p.2.ok)→∃ w,CW rec n v a m l f (i:Int)=some w∧w.size≤1+12*K∧w.ok
 | 0,k,i,f,_,h,_,_,_=>absurd h (Nat.not_lt_zero _)
 | m+1,k,i,f,hi,hm,hf,hs,hp=>by
  rw [CW]
  by_cases c:(((decide ((i:Int)<(v.fields.length:Int)))&&(decide ((i:Int)<6)))&&(decide (1<a)))=true
  ·rw [Ah c]
   simp only [Bool.and_eq_true,decide_eq_true_eq] at c
   obtain ⟨⟨s,r⟩,j⟩:=c
   have b:i<v.fields.length:=by omega
   obtain ⟨w,e,o,d⟩:=hr j v.fields[i].2
   obtain ⟨k,rfl⟩:∃ q,k=q+1:=⟨k-1,by omega⟩
   rw [AH b,Ae,Ah (Ls _ (by decide)),Ah hI,e,Ae,Ab,Ah (AG (by omega))]
   have g:=Lm v.fields[i].1 (c:=40) (by decide)
   exact Zdj rec n v a K hI hr l hl ho m k (i+1) _ (by omega) (by omega) (by rw [Dz];omega) (by rw [Px,Nat.add_mul];simp only;omega) (Ee hp ⟨by simp only;omega,d⟩)
  ·rw [Ai c,E5]
   have g:=Lm v.text (c:=40) (by decide)
   have:i*K≤6*K:=Nat.mul_le_mul_right _ (by omega)
   refine ⟨_,rfl,?_,(Vl.ok_eq _).2 ⟨?_,ho,hp⟩⟩
   ·rw [Vl.size_eq];simp only [Vl.list,Vl.fields];omega
   ·show (v.text.extract 0 _).size≤1048576;omega
theorem X3 (rec:Vl→Int→Option Vl) (n:Nat) (hn:8≤n) (v:Vl) (a:Int) (K:Nat) (hI:Ba (a-1)) (hr:1<a→∀ x,∃ w,rec x (a-1)=some w∧w.size≤K∧w.ok) :
  ∀ (m k i:Nat) (l:List Vl),i+k=6→k<m→l.length=i→EJ l≤i*K→(∀ p∈l,p.ok)→∃ w,CX rec n v a m l (i:Int)=some w∧w.size≤1+12*K∧w.ok
 | 0,k,i,f,_,h,_,_,_=>absurd h (Nat.not_lt_zero _)
 | m+1,k,i,f,hi,hm,hf,hs,hp=>by
  rw [CX]
  by_cases c:(((decide ((i:Int)<(v.list.length:Int)))&&(decide ((i:Int)<6)))&&(decide (1<a)))=true
  ·rw [Ah c]
   simp only [Bool.and_eq_true,decide_eq_true_eq] at c
   obtain ⟨⟨r,o⟩,g⟩:=c
   have b:i<v.list.length:=by omega
   obtain ⟨w,e,j,d⟩:=hr g v.list[i]
   obtain ⟨k,rfl⟩:∃ q,k=q+1:=⟨k-1,by omega⟩
   rw [AH b,Ae,Ah hI,e,Ae,Ab,Ah (AG (by omega))]
   exact X3 rec n hn v a K hI hr m k (i+1) _ (by omega) (by omega) (by rw [Dz];omega) (by rw [RB,Nat.add_mul];omega) (Ee hp d)
  ·rw [Ai c,FQ]
   have:i*K≤6*K:=Nat.mul_le_mul_right _ (by omega)
   exact Zdj rec n v a K hI hr f (by omega) hp n 6 0 [] (by omega) (by omega) rfl (by simp [Fv]) (by simp)
theorem HG:∀ (d n:Nat) (v:Vl),d≤50→d+9≤n→∃ w,AD n v ((d+1:Nat):Int)=some w∧w.size≤szV (d+1)∧w.ok
 | 0,n,v,h1,h2=>by
  obtain ⟨n,rfl⟩:∃ q,n=q+1:=⟨n-1,by omega⟩
  rw [AD,EQ,Ah (Ls _ (by decide)),szV]
  exact X3 (AD n) n (by omega) v _ 0 (by unfold Ba;omega) (fun c x=>by omega) n 6 0 [] (by omega) (by omega) rfl (by simp [EJ]) (by simp)
 | d+1,n,v,h1,h2=>by
  obtain ⟨n,rfl⟩:∃ q,n=q+1:=⟨n-1,by omega⟩
  rw [AD,EQ,Ah (Ls _ (by decide)),szV]
  exact X3 (AD n) n (by omega) v _ (szV (d+1)) (by unfold Ba;omega) (fun c x=>by
   rw [show (((d+1+1:Nat):Int)-1)=((d+1:Nat):Int) from by omega]
   exact HG d n x (by omega) (by omega)) n 6 0 [] (by omega) (by omega) rfl (by simp [EJ]) (by simp)
def Ex.fits:Nat→Ex→Prop
 | 0,_=>False
 | d+1,e=>e.text.size≤60∧(∀ v∈e.value,v.size≤13∧v.ok)∧e.args.length≤4∧(∀ x∈e.args,Ex.fits d x)∧e.value.length≤2
theorem Zbu (rec:Ex→Int→Option Ex) (n:Nat) (v:Ex) (a:Int) (d:Nat) (hI:Ba (a-1)) (hr:1<a→∀ x,∃ w,rec x (a-1)=some w∧w.fits d) (l:List Vl) (ho:∀ x∈l,x.size≤13∧x.ok) (hl2:l.length≤2) :
  ∀ (m k i:Nat) (f:List Ex),i+k=4→k<m→f.length=i→(∀ p∈f,p.fits d)→∃ w,CS rec n v a m l f (i:Int)=some w∧w.fits (d+1)
 | 0,k,i,f,_,h,_,_=>absurd h (Nat.not_lt_zero _)
 | m+1,k,i,f,hi,hm,hf,hp=>by
  rw [CS]
  by_cases c:(((decide ((i:Int)<(v.args.length:Int)))&&(decide ((i:Int)<4)))&&(decide (1<a)))=true
  ·rw [Ah c]
   simp only [Bool.and_eq_true,decide_eq_true_eq] at c
   obtain ⟨⟨s,r⟩,j⟩:=c
   have b:i<v.args.length:=by omega
   obtain ⟨w,e,g⟩:=hr j v.args[i]
   obtain ⟨k,rfl⟩:∃ q,k=q+1:=⟨k-1,by omega⟩
   rw [AH b,Ae,Ah hI,e,Ae,Ab,Ah (AG (by omega))]
   exact Zbu rec n v a d hI hr l ho hl2 m k (i+1) _ (by omega) (by omega) (by rw [Dz];omega) (Ee hp g)
  ·rw [Ai c,E7]
   have o:=Lm v.text (c:=60) (by decide)
   refine ⟨_,rfl,?_,ho,?_,hp,hl2⟩
   ·show (v.text.extract 0 _).size≤60;omega
   ·simp only [Ex.args];omega
theorem Zbq (rec:Ex→Int→Option Ex) (n:Nat) (hn:20≤n) (v:Ex) (a:Int) (d:Nat) (hI:Ba (a-1)) (hr:1<a→∀ x,∃ w,rec x (a-1)=some w∧w.fits d) :
  ∀ (m k i:Nat) (f:List Vl),i+k=2→k<m→f.length=i→(∀ p∈f,p.size≤13∧p.ok)→∃ w,Dt rec n v a m f (i:Int)=some w∧w.fits (d+1)
 | 0,k,i,f,_,h,_,_=>absurd h (Nat.not_lt_zero _)
 | m+1,k,i,f,hi,hm,hf,hp=>by
  rw [Dt]
  by_cases c:((decide ((i:Int)<(v.value.length:Int)))&&(decide ((i:Int)<2)))=true
  ·rw [Ah c]
   simp only [Bool.and_eq_true,decide_eq_true_eq] at c
   obtain ⟨o,l⟩:=c
   have b:i<v.value.length:=by omega
   obtain ⟨w,e,g,j⟩:=HG 1 n v.value[i] (by omega) (by omega)
   have e:AD n v.value[i] 2=some w:=e
   obtain ⟨k,rfl⟩:∃ q,k=q+1:=⟨k-1,by omega⟩
   rw [AH b,Ae,e,Ae,Ab,Ah (AG (by omega))]
   exact Zbq rec n hn v a d hI hr m k (i+1) _ (by omega) (by omega) (by rw [Dz];omega) (Ee hp ⟨g,j⟩)
  ·rw [Ai c,FY]
   exact Zbu rec n v a d hI hr f hp (by omega) n 4 0 [] (by omega) (by omega) rfl (by simp)
theorem Tz:∀ (d n:Nat) (v:Ex),d≤50→d+21≤n→∃ w,BF n v ((d+1:Nat):Int)=some w∧w.fits (d+1)
 | 0,n,v,h1,h2=>by
  obtain ⟨n,rfl⟩:∃ q,n=q+1:=⟨n-1,by omega⟩
  rw [BF,ET,Ah (Ls _ (by decide))]
  exact Zbq (BF n) n (by omega) v _ 0 (by unfold Ba;omega) (fun c x=>by omega) n 2 0 [] (by omega) (by omega) rfl (by simp)
 | d+1,n,v,h1,h2=>by
  obtain ⟨n,rfl⟩:∃ q,n=q+1:=⟨n-1,by omega⟩
  rw [BF,ET,Ah (Ls _ (by decide))]
  exact Zbq (BF n) n (by omega) v _ (d+1) (by unfold Ba;omega) (fun c x=>by
   rw [show (((d+1+1:Nat):Int)-1)=((d+1:Nat):Int) from by omega]
   exact Tz d n x (by omega) (by omega)) n 2 0 [] (by omega) (by omega) rfl (by simp)
def MV (m:List (ByteArray × Ex)):Prop:=m.length≤8∧∀ p∈m,p.1.size≤60∧p.2.fits 4
theorem Wv (n:Nat) (hn:30≤n) (a:List (ByteArray × Ex)):∀ (m k i:Nat) (f:List (ByteArray × Ex)),i+k=8→k<m→f.length=i→(∀ p∈f,p.1.size≤60∧p.2.fits 4)→∃ w,FP n a m (i:Int) f=some w∧MV w
 | 0,k,i,f,_,h,_,_=>absurd h (Nat.not_lt_zero _)
 | m+1,k,i,f,hi,hm,hf,hp=>by
  rw [FP]
  by_cases c:((decide ((i:Int)<(a.length:Int)))&&(decide ((i:Int)<8)))=true
  ·rw [Ah c]
   simp only [Bool.and_eq_true,decide_eq_true_eq] at c
   obtain ⟨l,j⟩:=c
   have b:i<a.length:=by omega
   obtain ⟨w,e,d⟩:=Tz 3 n a[i].2 (by omega) (by omega)
   have e:BF n a[i].2 4=some w:=e
   obtain ⟨k,rfl⟩:∃ q,k=q+1:=⟨k-1,by omega⟩
   have g:=Lm a[i].1 (c:=60) (by decide)
   rw [AH b,Ae,Ah (Ls _ (by decide)),e,Ae,Ab,Ah (AG (by omega))]
   exact Wv n hn a m k (i+1) _ (by omega) (by omega) (by rw [Dz];omega) (Ee hp ⟨by simp only;omega,d⟩)
  ·rw [Ai c,H9]
   exact ⟨_,rfl,by omega,hp⟩
theorem QW (n:Nat) (hn:30≤n) (a:List (ByteArray × Ex)):∃ w,GO n a=some w∧MV w:=Wv n hn a n 8 0 [] (by omega) (by omega) rfl (by simp)
def szT:Nat→Nat
 | 0=>0
 | d+1=>1+8*szT d
def Nw (K D:Nat) (t:Ty):Prop:=t.size≤K∧t.depth≤D∧t.ok
theorem Za9 (rec:Ty→Int→Option Ty) (n:Nat) (hn:20≤n) (ag:List ByteArray→List Ty→List TF→Int→Option Ty) (a z:Int) (p:TF) (ws:List ByteArray) (es:List Ty) (fs:List TF) :
  ∀ (m k i:Nat) (f:List Vl),i+k=2→k<m→f.length=i→(∀ v∈f,v.small)→∃ dl:List Vl,Cm rec n ag a z p m ws es fs f (i:Int)=Et rec n ag a z p ws es fs dl∧dl.length≤2∧∀ v∈dl,v.small
 | 0,k,i,f,_,h,_,_=>absurd h (Nat.not_lt_zero _)
 | m+1,k,i,f,hi,hm,hf,hp=>by
  rw [Cm]
  by_cases c:((decide ((i:Int)<(p.2.2.2.2.length:Int)))&&(decide ((i:Int)<2)))=true
  ·rw [Ah c]
   simp only [Bool.and_eq_true,decide_eq_true_eq] at c
   obtain ⟨o,j⟩:=c
   have b:i<p.2.2.2.2.length:=by omega
   obtain ⟨w,e,d,g⟩:=HG 2 n p.2.2.2.2[i] (by omega) (by omega)
   have e:AD n p.2.2.2.2[i] 3=some w:=e
   have d:w.size≤157:=d
   have l:=w.depth_size
   obtain ⟨k,rfl⟩:∃ q,k=q+1:=⟨k-1,by omega⟩
   rw [AH b,Ae,e,Ae,Ab,Ah (AG (by omega))]
   exact Za9 rec n hn ag a z p ws es fs m k (i+1) _ (by omega) (by omega) (by rw [Dz];omega) (Ee hp ⟨by omega,by omega,g⟩)
  ·rw [Ai c]
   exact ⟨_,rfl,by omega,hp⟩
theorem Zb2 (rec:Ty→Int→Option Ty) (n:Nat) (hn:20≤n) (t:Ty) (a:Int) (K D:Nat) (hI:Ba (a-1)) (hr:1<a→∀ x,∃ w,rec x (a-1)=some w∧Nw K D w)
  (ws:List ByteArray) (hw:ws.length≤6∧∀ w∈ws,w.size≤40) (es:List Ty) (he:IU es≤2*K∧∀ w∈es,Nw K D w) :
  ∀ (m k i:Nat) (f:List TF),i+k=6→k<m→f.length=i→FR f≤i*K→(∀ p∈f,p.2.1.size≤40∧Nw K D p.2.2.2.1∧p.2.2.2.2.length≤2∧∀ v∈p.2.2.2.2,v.small)→∃ w,Bd rec n t a m ws es f (i:Int)=some w∧Nw (1+8*K) (D+1) w
 | 0,k,i,f,_,h,_,_,_=>absurd h (Nat.not_lt_zero _)
 | m+1,k,i,f,hi,hm,hf,hs,hp=>by
  rw [Bd]
  by_cases c:(((decide ((i:Int)<(t.fields.length:Int)))&&(decide ((i:Int)<6)))&&(decide (1<a)))=true
  ·rw [Ah c]
   simp only [Bool.and_eq_true,decide_eq_true_eq] at c
   obtain ⟨⟨G,F⟩,s⟩:=c
   have d:i<t.fields.length:=by omega
   obtain ⟨w,e,j,l,y⟩:=hr s t.fields[i].2.2.2.1
   obtain ⟨k,rfl⟩:∃ q,k=q+1:=⟨k-1,by omega⟩
   obtain ⟨dl,g,o,r⟩:=Za9 rec n hn (Bd rec n t a m) a i t.fields[i] ws es f n 2 0 [] (by omega) (by omega) rfl (by simp)
   have g:Cm rec n (Bd rec n t a m) a i t.fields[i] n ws es f [] 0=_:=g
   have C:=Lm t.fields[i].2.1 (c:=40) (by decide)
   rw [AH d,Ae,g,Et,Ah (Ls _ (by decide)),Ah hI,e,Ae,Ab,FT,Ah (AG (by omega))]
   exact Zb2 rec n hn t a K D hI hr ws hw es he m k (i+1) _ (by omega) (by omega) (by rw [Dz];omega) (by rw [O4,Nat.add_mul];simp only;omega) (Ee hp ⟨by simp only;omega,⟨j,l,y⟩,o,r⟩)
  ·rw [Ai c,FN]
   have:i*K≤6*K:=Nat.mul_le_mul_right _ (by omega)
   refine ⟨_,rfl,?_,?_,(Ty.ok_eq _).2 ⟨?_,fun x b=>?_,fun x b=>(he.2 x b).2.2,fun p b=>?_⟩⟩
   ·rw [Ty.size_eq];simp only [Ty.elem,Ty.fields];omega
   ·rw [Ty.depth_eq];simp only [Ty.elem,Ty.fields]
    have z:=(QJ es D).2 fun x b=>(he.2 x b).2.1
    have E:=(Py f D).2 fun x b=>(hp x b).2.1.2.1
    omega
   ·simp only [Ty.words];omega
   ·have:=hw.2 x b;omega
   ·obtain ⟨q1,q2,q3,u⟩:=hp p b
    exact ⟨by omega,q2.2.2,by omega,u⟩
theorem Zdr (rec:Ty→Int→Option Ty) (n:Nat) (hn:20≤n) (t:Ty) (a:Int) (K D:Nat) (hI:Ba (a-1)) (hr:1<a→∀ x,∃ w,rec x (a-1)=some w∧Nw K D w)
  (ws:List ByteArray) (hw:ws.length≤6∧∀ w∈ws,w.size≤40) :
  ∀ (m k i:Nat) (f:List Ty),i+k=2→k<m→f.length=i→IU f≤i*K→(∀ p∈f,Nw K D p)→∃ w,Do rec n t a m ws f (i:Int)=some w∧Nw (1+8*K) (D+1) w
 | 0,k,i,f,_,h,_,_,_=>absurd h (Nat.not_lt_zero _)
 | m+1,k,i,f,hi,hm,hf,hs,hp=>by
  rw [Do]
  by_cases c:(((decide ((i:Int)<(t.elem.length:Int)))&&(decide ((i:Int)<2)))&&(decide (1<a)))=true
  ·rw [Ah c]
   simp only [Bool.and_eq_true,decide_eq_true_eq] at c
   obtain ⟨⟨o,l⟩,g⟩:=c
   have b:i<t.elem.length:=by omega
   obtain ⟨w,e,d⟩:=hr g t.elem[i]
   have j:=d.1
   obtain ⟨k,rfl⟩:∃ q,k=q+1:=⟨k-1,by omega⟩
   rw [AH b,Ae,Ah hI,e,Ae,Ab,Ah (AG (by omega))]
   exact Zdr rec n hn t a K D hI hr ws hw m k (i+1) _ (by omega) (by omega) (by rw [Dz];omega) (by rw [Qu,Nat.add_mul];omega) (Ee hp d)
  ·rw [Ai c,FV]
   have:i*K≤2*K:=Nat.mul_le_mul_right _ (by omega)
   exact Zb2 rec n hn t a K D hI hr ws hw f ⟨by omega,hp⟩ n 6 0 [] (by omega) (by omega) rfl (by simp [FR]) (by simp)
theorem ZdT (rec:Ty→Int→Option Ty) (n:Nat) (hn:20≤n) (t:Ty) (a:Int) (K D:Nat) (hI:Ba (a-1)) (hr:1<a→∀ x,∃ w,rec x (a-1)=some w∧Nw K D w) :
  ∀ (m k i:Nat) (f:List ByteArray),i+k=6→k<m→f.length=i→(∀ p∈f,p.size≤40)→∃ w,DN rec n t a m f (i:Int)=some w∧Nw (1+8*K) (D+1) w
 | 0,k,i,f,_,h,_,_=>absurd h (Nat.not_lt_zero _)
 | m+1,k,i,f,hi,hm,hf,hp=>by
  rw [DN]
  by_cases c:((decide ((i:Int)<(t.words.length:Int)))&&(decide ((i:Int)<6)))=true
  ·rw [Ah c]
   simp only [Bool.and_eq_true,decide_eq_true_eq] at c
   obtain ⟨d,g⟩:=c
   have b:i<t.words.length:=by omega
   obtain ⟨k,rfl⟩:∃ q,k=q+1:=⟨k-1,by omega⟩
   have e:=Lm t.words[i] (c:=40) (by decide)
   rw [AH b,Ae,Ah (Ls _ (by decide)),Ab,Ah (AG (by omega))]
   exact ZdT rec n hn t a K D hI hr m k (i+1) _ (by omega) (by omega) (by rw [Dz];omega) (Ee hp (by omega))
  ·rw [Ai c,Gv]
   exact Zdr rec n hn t a K D hI hr f ⟨by omega,hp⟩ n 2 0 [] (by omega) (by omega) rfl (by simp [IU]) (by simp)
theorem SY:∀ (d n:Nat) (v:Ty),d≤50→d+21≤n→∃ w,BD n v ((d+1:Nat):Int)=some w∧Nw (szT (d+1)) (d+1) w
 | 0,n,v,h1,h2=>by
  obtain ⟨n,rfl⟩:∃ q,n=q+1:=⟨n-1,by omega⟩
  rw [BD,FM,szT]
  exact ZdT (BD n) n (by omega) v _ 0 0 (by unfold Ba;omega) (fun c x=>by omega) n 6 0 [] (by omega) (by omega) rfl (by simp)
 | d+1,n,v,h1,h2=>by
  obtain ⟨n,rfl⟩:∃ q,n=q+1:=⟨n-1,by omega⟩
  rw [BD,FM,szT]
  exact ZdT (BD n) n (by omega) v _ (szT (d+1)) (d+1) (by unfold Ba;omega) (fun c x=>by
   rw [show (((d+1+1:Nat):Int)-1)=((d+1:Nat):Int) from by omega]
   exact SY d n x (by omega) (by omega)) n 6 0 [] (by omega) (by omega) rfl (by simp)
def CB (n:Nat) (b:Msg):Option Msg :=
 if 0≤0∧0≤(if 6<(b.stamp.2.length:Int) then 6 else (b.stamp.2.length:Int))∧(if 6<(b.stamp.2.length:Int) then 6 else (b.stamp.2.length:Int))≤(b.stamp.2.length:Int) then
  if (0+(b.stamp.2.take ((if 6<(b.stamp.2.length:Int) then 6 else (b.stamp.2.length:Int))).toNat).length)*8≤140737488355328∧0+(b.stamp.2.take ((if 6<(b.stamp.2.length:Int) then 6 else (b.stamp.2.length:Int))).toNat).length≤4611686018427387904 then
   if 0≤0∧0≤(if 6<(b.origins.length:Int) then 6 else (b.origins.length:Int))∧(if 6<(b.origins.length:Int) then 6 else (b.origins.length:Int))≤(b.origins.length:Int) then
    if (0+(b.origins.take ((if 6<(b.origins.length:Int) then 6 else (b.origins.length:Int))).toNat).length)*8≤140737488355328∧0+(b.origins.take ((if 6<(b.origins.length:Int) then 6 else (b.origins.length:Int))).toNat).length≤4611686018427387904 then
     (AD n b.body 5).bind fun h =>
     some (Msg.mk ((b.stamp.1,b.stamp.2.take ((if 6<(b.stamp.2.length:Int) then 6 else (b.stamp.2.length:Int))).toNat)) ((if 1099511627776<(if b.mass<0 then 0 else b.mass) then 1099511627776 else (if b.mass<0 then 0 else b.mass))) (b.origins.take ((if 6<(b.origins.length:Int) then 6 else (b.origins.length:Int))).toNat) h)
    else none
   else none
  else none
 else none
theorem H5 (w0:World) (n:Nat) (B:Ao) (Rw:Au) (L:As) (a0:Msg) (r:Msg) (h:CB n a0=some r) :
  ACalls Tryz.prog w0 22 [.agg ((Ak a0.stamp.1::([.list (a0.stamp.2.map AU) .none]))++(Ak a0.mass::(.list (a0.origins.map AU) .none::(a0.body.cs))))] ⟨B,Rw,L⟩ fun x st=>x = .agg ((Ak r.stamp.1::([.list (r.stamp.2.map AU) .none]))++(Ak r.mass::(.list (r.origins.map AU) .none::(r.body.cs))))∧st=⟨B,Rw,L⟩:=by
 rw [CB] at h
 refine hd [.cell 2 51] Tryz.func22 Tryz.ntmps22 fun M0 W0 C v w j y e hs=>?_
 simp only [Az]
 refine rg [1,2] hs ?_
 obtain ⟨u,h⟩:=An h
 obtain ⟨l,h⟩:=An h
 have e:=e.full 1 0
 obtain ⟨z,o,e,c⟩:=e.append (P:=Tryz.prog) XK (by rw [TO];rfl) (by decide) ((a0.stamp.2.take ((if 6<(a0.stamp.2.length:Int) then 6 else (a0.stamp.2.length:Int))).toNat).length) l.1 l.2
 simp only [Nat.zero_add] at e
 replace c:=fun (ys:List AV) B L k=>c ([]) ys B L k Ey
 replace c:=fun B L k=>c ((a0.stamp.2.take ((if 6<(a0.stamp.2.length:Int) then 6 else (a0.stamp.2.length:Int))).toNat).map AU) B L k Ey (by simp +decide only [go_sem,Nat.reduceAdd])
 try simp only [List.mem_singleton,List.mem_cons,List.not_mem_nil,or_false,forall_eq_or_imp,forall_eq,List.map_append,List.map_cons,List.map_nil,IX,Iu,Il,IA,Ip,IR,G8,GX,Ir,EP,ES,Hf,Hk,GV,Iz,Hj,IE] at c
 have hs:=Ad c hs
 have hs:=Ad (Vl.cs_eqs a0.body) hs
 refine rg [1,2] hs ?_
 obtain ⟨q,h⟩:=An h
 obtain ⟨f,h⟩:=An h
 have e:=e.full 1 0
 obtain ⟨t,m,e,b⟩:=e.append (P:=Tryz.prog) XK (by rw [TO];rfl) (by decide) ((a0.origins.take ((if 6<(a0.origins.length:Int) then 6 else (a0.origins.length:Int))).toNat).length) f.1 f.2
 simp only [Nat.zero_add] at e
 replace b:=fun (ys:List AV) B L k=>b ([]) ys B L k Ey
 replace b:=fun B L k=>b ((a0.origins.take ((if 6<(a0.origins.length:Int) then 6 else (a0.origins.length:Int))).toNat).map AU) B L k Ey (by simp +decide only [go_sem,Nat.reduceAdd])
 try simp only [List.mem_singleton,List.mem_cons,List.not_mem_nil,or_false,forall_eq_or_imp,forall_eq,List.map_append,List.map_cons,List.map_nil,IX,Iu,Il,IA,Ip,IR,G8,GX,Ir,EP,ES,Hf,Hk,GV,Iz,Hj,IE] at b
 have hs:=Ad b hs
 refine rg [1,2] hs ?_
 apply Am;intro K16 g
 obtain ⟨d,i,h⟩:=bind_some h
 apply Lj PQ [8,10] [1,4] [1,2] kr (fun s=>∃ (X:Ao) (rows:Au) (p:List AV),s=⟨B++([p,[Ak 0,.list ([]) .full,Ak 0,.list ([]) .full,Ak 0,Ak 0,Ak 0,.val (.string (⟨#[]⟩:ByteArray)),.list ([]) .full,.list ([]) .full]]++X),rows,L⟩) 3 (B.length+2)
 ·simp +decide only [go_sem,Nat.reduceAdd]
 ·refine ⟨2,?_⟩
  rw [Ap];simp +decide only [go_sem,Nat.reduceAdd,Bj,c,Vl.cs_eqs a0.body,b,Vl.cs_eqs d]
  have hs:=Ad (Vl.cs_eqs d) hs
  (repeat' apply Ad)<;>first | refine Aw _ (BV w0 n _ _ _ a0.body 5 _ i) (hv hs) ?_ | exact cl
  rw [Ap];simp +decide only [go_sem,Nat.reduceAdd,c,Vl.cs_eqs a0.body,b,Vl.cs_eqs d]
  (repeat' apply Ad)<;>first | rfl | exact cl
 ·rintro s ⟨X,rows,p,rfl⟩
  refine ⟨2,?_⟩
  rw [Ap];simp +decide only [go_sem,Nat.reduceAdd,Bj,List.append_eq,List.cons_append,List.nil_append,c,Vl.cs_eqs a0.body,b,Vl.cs_eqs d]
  have hs:=Ad (Vl.cs_eqs d) hs
  (repeat' apply Ad)<;>first | refine Aw _ (BV w0 n _ _ _ a0.body 5 _ i) (hv hs) ?_ | exact cl
  rw [Ap];simp +decide only [go_sem,Nat.reduceAdd,c,Vl.cs_eqs a0.body,b,Vl.cs_eqs d]
  (repeat' apply Ad)<;>first | rfl | ((repeat (first | exact .nil | refine .cons (ef hs) ?_));done) | exact cl
 ·exact gd (tg (a:=(8,10,[1,2]))) (Ad (Vl.cs_eqs d) (Ad b (Ad (Vl.cs_eqs a0.body) (Ad c hs))))
 simp +decide only [go_sem,Nat.reduceAdd,c,Vl.cs_eqs a0.body,b,Vl.cs_eqs d]
 (repeat' apply Ad)<;>first | refine g _ _ ?_ | exact cl
 clear g
 have hs:=Ad (Vl.cs_eqs d) hs
 refine rg [2] hs ?_
 exact rt h hs j e
end Go.Proofs.YtcdnijfbfdnjlaaGreatDoor
