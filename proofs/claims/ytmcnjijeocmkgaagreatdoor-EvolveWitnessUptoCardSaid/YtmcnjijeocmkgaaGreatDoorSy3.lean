/-
  Part 3 of the proof: rules and walks that the claim's last text uses.
-/
import Derived.Carry
import Derived.ChangeOld
import Derived.ChangeSlices
import Derived.Deep.DeepHandedRow
import Derived.Deep.DeepWitnessRowRef
import Derived.Lib.AppendZeros
import Derived.Lib.Bytealg
import Derived.Lib.LaidIn
import Derived.Lib.LaidU8T
import Derived.PinnedBridge
import Derived.ProofKit
import Derived.SevenTiedAt
import Derived.Shelf.SlSortCmp.NoneTotal
import Derived.Shelf.SlSortCmp.WholeK
import Derived.Shelf.SlicesE.Clone
import Derived.Shelf.Unicode.DecodeSlow
import Derived.SizedLaws
import Derived.Sort.Lot0
import Derived.Test.YtmcnjijeocmkgaaGreatDoorCards
import Derived.Test.YtmcnjijeocmkgaaGreatDoorProg
import Derived.Test.YtmcnjijeocmkgaaGreatDoorRows
import Derived.Test.YtmcnjijeocmkgaaGreatDoorTie
import Derived.Test.YtmcnjijeocmkgaaGreatDoorSy2
set_option linter.unusedSimpArgs false
set_option linter.unusedVariables false
set_option maxRecDepth 100000
set_option maxHeartbeats 4000000
namespace Go.Proofs.YtmcnjijeocmkgaaGreatDoor
open Go Go.RowKit Go.Ev
@[go_sem] theorem ZfN:OV Tryz.prog 23=some (26,7,true,104):=by kernel_rfl
@[go_sem] theorem Zj8:OV Tryz.prog 24=some (95,11,true,160):=by kernel_rfl
@[go_sem] theorem LS:OV Tryz.prog 31=some (34,6,true,88):=by kernel_rfl
@[go_sem] theorem Nb:OV Tryz.prog 32=some (81,7,true,104):=by kernel_rfl
@[go_sem] theorem ZjO:OV Tryz.prog 83=some (87,2,true,24):=by kernel_rfl
@[go_sem] theorem Zk4:WJ Tryz.prog 189=some (11,1,false)∧WJ Tryz.prog 259=some (11,8,true)∧OV Tryz.prog 129=some (41,1,false,8)∧OV Tryz.prog 165=some (3,1,false,8)∧OV Tryz.prog 167=some (5,1,false,1)∧OV Tryz.prog 189=none∧OV Tryz.prog 22=some (9,1,false,16):=by (repeat' apply Ad)<;>kernel_rfl
@[go_sem] theorem ZiC (xs ys:List AV):Vj Tryz.prog .eql 87 xs ys=(obK [(none,true),(some .i64,false)] xs ys,Tu xs ys):=Zel (by kernel_rfl) xs ys
@[go_sem] theorem ZjU:HS Tryz.prog 258 1=some (1,1,false)∧HS Tryz.prog 258 2=some (2,1,false)∧HS Tryz.prog 258 3=some (3,1,false)∧HS Tryz.prog 258 4=some (4,1,false)∧HS Tryz.prog 258 5=some (5,1,false)∧HS Tryz.prog 258 6=some (6,1,false)∧HS Tryz.prog 258 7=some (7,1,false)∧HS Tryz.prog 26 0=some (0,1,false)∧HS Tryz.prog 26 1=some (1,1,false)∧HS Tryz.prog 26 2=some (2,1,false)∧HS Tryz.prog 26 3=some (3,1,false)∧HS Tryz.prog 26 4=some (4,1,false):=by (repeat' apply Ad)<;>kernel_rfl
@[go_sem] theorem ZkO:HS Tryz.prog 26 5=some (5,1,false)∧HS Tryz.prog 26 6=some (6,1,false)∧HS Tryz.prog 28 0=some (0,7,true)∧HS Tryz.prog 28 1=some (7,7,true)∧HS Tryz.prog 34 0=some (0,1,false)∧HS Tryz.prog 34 1=some (1,1,false)∧HS Tryz.prog 34 2=some (2,1,false)∧HS Tryz.prog 34 3=some (3,1,false)∧HS Tryz.prog 34 4=some (4,1,false)∧HS Tryz.prog 34 5=some (5,1,false)∧HS Tryz.prog 81 0=some (0,1,false)∧HS Tryz.prog 81 1=some (1,6,true):=by (repeat' apply Ad)<;>kernel_rfl
@[go_sem] theorem ZkE:HS Tryz.prog 95 0=some (0,1,false)∧HS Tryz.prog 95 1=some (1,1,false)∧HS Tryz.prog 95 2=some (2,1,false)∧HS Tryz.prog 95 3=some (3,7,true)∧HS Tryz.prog 95 4=some (10,1,false)∧Ql Tryz.prog 167=none∧Ql Tryz.prog 21=some .i32∧Ql Tryz.prog 231=some .u64∧Ql Tryz.prog 3=some .i64∧Ql Tryz.prog 9=none∧HA Tryz.prog 103=some [(0,1),(1,1)]∧HA Tryz.prog 189=none:=by (repeat' apply Ad)<;>kernel_rfl
@[go_sem] theorem ZjE:HA Tryz.prog 258=some [(0,1),(1,1),(2,1),(3,1),(4,1),(5,1),(6,1),(7,1)]∧HA Tryz.prog 259=none∧HA Tryz.prog 26=some [(0,1),(1,1),(2,1),(3,1),(4,1),(5,1),(6,1)]∧HA Tryz.prog 34=some [(0,1),(1,1),(2,1),(3,1),(4,1),(5,1)]∧HA Tryz.prog 81=some [(0,1),(1,6)]∧HA Tryz.prog 87=some [(0,1),(1,1)]∧HA Tryz.prog 95=some [(0,1),(1,1),(2,1),(3,7),(10,1)]∧MZ Tryz.prog 103=some (2,true)∧MZ Tryz.prog 109=some (1,false)∧MZ Tryz.prog 158=some (1,false)∧MZ Tryz.prog 189=some (11,true)∧MZ Tryz.prog 22=some (1,false):=by (repeat' apply Ad)<;>kernel_rfl
@[go_sem] theorem Zl6:MZ Tryz.prog 23=some (1,false)∧MZ Tryz.prog 24=some (1,false)∧MZ Tryz.prog 258=some (8,true)∧MZ Tryz.prog 259=some (88,true)∧MZ Tryz.prog 26=some (7,true)∧MZ Tryz.prog 28=some (14,true)∧MZ Tryz.prog 3=some (1,false)∧MZ Tryz.prog 31=some (1,false)∧MZ Tryz.prog 32=some (1,false)∧MZ Tryz.prog 34=some (6,true)∧MZ Tryz.prog 4=some (1,false)∧MZ Tryz.prog 41=some (1,false):=by (repeat' apply Ad)<;>kernel_rfl
@[go_sem] theorem ZaW:EW Tryz.prog 26=some [Ak 0,Ak 0,Ak 0,Ak 0,.list [] .full,.list [] .full,.list [] .full]:=by kernel_rfl
@[go_sem] theorem HF:EW Tryz.prog 34=some [Ak 0,Ak 0,Ak 0,.val (.string ⟨#[]⟩),.list [] .full,.list [] .full]:=by kernel_rfl
@[go_sem] theorem tyT_5:MZ Tryz.prog 5=some (1,false)∧MZ Tryz.prog 81=some (7,true)∧MZ Tryz.prog 83=some (1,false)∧MZ Tryz.prog 87=some (2,true)∧MZ Tryz.prog 9=some (1,false)∧MZ Tryz.prog 95=some (11,true)∧EW Tryz.prog 103=some [.val .nilFunc,.val (.bool false)]∧EW Tryz.prog 189=some [.val .nilFunc,.val .nilFunc,.val .nilFunc,.val .nilFunc,.val .nilFunc,.val .nilFunc,.val .nilFunc,.val .nilFunc,.val .nilFunc,.val .nilFunc,.val .nilFunc]∧EW Tryz.prog 258=some [.val (.string ⟨#[]⟩),Ak 0,Ak 0,.val (.bool false),.val (.bool false),.val (.bool false),.val (.bool false),.val (.bool false)]∧EW Tryz.prog 259=some [.val (.string ⟨#[]⟩),Ak 0,Ak 0,.val (.bool false),.val (.bool false),.val (.bool false),.val (.bool false),.val (.bool false),.val (.string ⟨#[]⟩),Ak 0,Ak 0,.val (.bool false),.val (.bool false),.val (.bool false),.val (.bool false),.val (.bool false),.val (.string ⟨#[]⟩),Ak 0,Ak 0,.val (.bool false),.val (.bool false),.val (.bool false),.val (.bool false),.val (.bool false),.val (.string ⟨#[]⟩),Ak 0,Ak 0,.val (.bool false),.val (.bool false),.val (.bool false),.val (.bool false),.val (.bool false),.val (.string ⟨#[]⟩),Ak 0,Ak 0,.val (.bool false),.val (.bool false),.val (.bool false),.val (.bool false),.val (.bool false),.val (.string ⟨#[]⟩),Ak 0,Ak 0,.val (.bool false),.val (.bool false),.val (.bool false),.val (.bool false),.val (.bool false),.val (.string ⟨#[]⟩),Ak 0,Ak 0,.val (.bool false),.val (.bool false),.val (.bool false),.val (.bool false),.val (.bool false),.val (.string ⟨#[]⟩),Ak 0,Ak 0,.val (.bool false),.val (.bool false),.val (.bool false),.val (.bool false),.val (.bool false),.val (.string ⟨#[]⟩),Ak 0,Ak 0,.val (.bool false),.val (.bool false),.val (.bool false),.val (.bool false),.val (.bool false),.val (.string ⟨#[]⟩),Ak 0,Ak 0,.val (.bool false),.val (.bool false),.val (.bool false),.val (.bool false),.val (.bool false),.val (.string ⟨#[]⟩),Ak 0,Ak 0,.val (.bool false),.val (.bool false),.val (.bool false),.val (.bool false),.val (.bool false)]∧EW Tryz.prog 3=some [Ak 0]∧EW Tryz.prog 4=some [.val (.bool false)]:=by (repeat' apply Ad)<;>kernel_rfl
@[go_sem] theorem IB:EW Tryz.prog 81=some [.val (.string ⟨#[]⟩),Ak 0,Ak 0,Ak 0,.val (.string ⟨#[]⟩),.list [] .full,.list [] .full]:=by kernel_rfl
@[go_sem] theorem Zgm:EW Tryz.prog 87=some [.val (.string ⟨#[]⟩),Ak 0]:=by kernel_rfl
@[go_sem] theorem ZfE:EW Tryz.prog 95=some [Ak 0,.val (.string ⟨#[]⟩),Ak 0,Ak 0,Ak 0,Ak 0,Ak 0,.list [] .full,.list [] .full,.list [] .full,.list [] .full]:=by kernel_rfl
@[go_sem] theorem Zlf:EW Tryz.prog 41=some [Ak 0]∧EW Tryz.prog 83=some [.list [] .full]:=by (repeat' apply Ad)<;>kernel_rfl
theorem Oo:Tryz.prog.follows .mixedOrders=true:=by kernel_rfl
inductive Vl where
 | mk (kind int scale:Int) (text:ByteArray) (list:List Vl) (fields:List (ByteArray × Vl))
inductive Ty where
 | mk (kind min max scale:Int) (words:List ByteArray) (elem:List Ty) (fields:List (Int × ByteArray × Int × Ty × List Vl))
abbrev AX:List AV:=[Ak 0,Ak 0,Ak 0,.val (.string ⟨#[]⟩),.list [] .full,.list [] .full]
namespace Vl
def kind:Vl→Int | mk k _ _ _ _ _=>k
def int:Vl→Int | mk _ i _ _ _ _=>i
def scale:Vl→Int | mk _ _ s _ _ _=>s
def text:Vl→ByteArray | mk _ _ _ t _ _=>t
def list:Vl→List Vl | mk _ _ _ _ l _=>l
def fields:Vl→List (ByteArray × Vl) | mk _ _ _ _ _ f=>f
end Vl
mutual
def Vl.size:Vl→Nat
 | .mk _ _ _ _ l f=>1+CJ l+Bi f
def CJ:List Vl→Nat
 | []=>0
 | v::r=>v.size+CJ r
def Bi:List (ByteArray × Vl)→Nat
 | []=>0
 | (_,v)::r=>v.size+Bi r
end
mutual
def Vl.cs:Vl→List AV
 | .mk k i s t l f=>[.val (.int .i64 k),.val (.int .i64 i),.val (.int .i64 s),.val (.string t),.list (HY l) .none,.list (Np f) .none]
def HY:List Vl→List AV
 | []=>[]
 | v::r => .agg v.cs::HY r
def Np:List (ByteArray × Vl)→List AV
 | []=>[]
 | (n,v)::r => .agg (.val (.string n)::v.cs)::Np r
end
mutual
def Ty.size:Ty→Nat
 | .mk _ _ _ _ _ e f=>1+GO e+Dp f
def GO:List Ty→Nat
 | []=>0
 | t::r=>t.size+GO r
def Dp:List (Int × ByteArray × Int × Ty × List Vl)→Nat
 | []=>0
 | (_,_,_,t,_)::r=>t.size+Dp r
end
mutual
def Ty.cs:Ty→List AV
 | .mk k lo hi s w e f=>[.val (.int .i64 k),.val (.int .i64 lo),.val (.int .i64 hi),.val (.int .i64 s),.list (w.map fun x => .val (.string x)) .none,.list (RH e) .none,.list (M4 f) .none]
def RH:List Ty→List AV
 | []=>[]
 | t::r => .agg t.cs::RH r
def M4:List (Int × ByteArray × Int × Ty × List Vl)→List AV
 | []=>[]
 | (n,s,d,t,l)::r => .agg (.val (.int .i64 n) :: .val (.string s) :: .val (.int .i64 d)::(t.cs++[.list (HY l) .none]))::M4 r
end
theorem JI:∀ l:List Vl,HY l=l.map fun v => .agg v.cs
 | []=>rfl
 | v::r=>by simp [HY,JI r]
theorem Ro:∀ l:List (ByteArray × Vl),Np l=l.map fun p => .agg (.val (.string p.1)::p.2.cs)
 | []=>rfl
 | (n,v)::r=>by simp [Np,Ro r]
@[go_sem] theorem TK (l:List Vl):(HY l).length=l.length:=by simp [JI]
@[go_sem] theorem Z5 (l:List (ByteArray × Vl)):(Np l).length=l.length:=by simp [Ro]
theorem Y2:∀ l:List Ty,RH l=l.map fun v => .agg v.cs
 | []=>rfl
 | v::r=>by simp [RH,Y2 r]
theorem WH:∀ l:List (Int × ByteArray × Int × Ty × List Vl),M4 l=l.map fun p => .agg (Ak p.1 :: .val (.string p.2.1)::Ak p.2.2.1::(p.2.2.2.1.cs++[.list (HY p.2.2.2.2) .none]))
 | []=>rfl
 | (n,s,d,t,l)::r=>by simp [M4,WH r]
theorem Vl.cs_eq (v:Vl):v.cs=[.val (.int .i64 v.kind),.val (.int .i64 v.int),.val (.int .i64 v.scale),.val (.string v.text),.list (HY v.list) .none,.list (Np v.fields) .none]:=by cases v;rfl
@[go_sem] theorem Vl.cs_length (v:Vl):v.cs.length=6:=by cases v;rfl
@[go_sem] theorem Vl.cs_pub (v:Vl):v.cs.map AV.pubCell=v.cs:=by cases v;rfl
mutual
theorem Vl.under (nb nr nl:Nat):∀ v:Vl,∀ x∈v.cs,Under nb nr nl x
 | .mk k i s t l f=>by
  intro x a
  simp only [Vl.cs,List.mem_cons,List.not_mem_nil,or_false] at a
  rcases a with rfl | rfl | rfl | rfl | rfl | rfl
  ·exact .val _
  ·exact .val _
  ·exact .val _
  ·exact .val _
  ·exact .list (NV nb nr nl l) trivial
  ·exact .list (Qr nb nr nl f) trivial
theorem NV (nb nr nl:Nat):∀ l:List Vl,∀ x∈HY l,Under nb nr nl x
 | []=>fun _ h=>by simp [HY] at h
 | v::r=>by
  intro x hx
  simp only [HY,List.mem_cons] at hx
  rcases hx with rfl | hx
  ·exact .agg (Vl.under nb nr nl v)
  ·exact NV nb nr nl r x hx
theorem Qr (nb nr nl:Nat):∀ l:List (ByteArray × Vl),∀ x∈Np l,Under nb nr nl x
 | []=>fun _ h=>by simp [Np] at h
 | (n,v)::r=>by
  intro x hx
  simp only [Np,List.mem_cons] at hx
  rcases hx with rfl | hx
  ·refine .agg fun y hy=>?_
   rcases List.mem_cons.1 hy with rfl | hy
   ·exact .val _
   ·exact Vl.under nb nr nl v y hy
  ·exact Qr nb nr nl r x hx
end
mutual
theorem Ty.under (nb nr nl:Nat):∀ v:Ty,∀ x∈v.cs,Under nb nr nl x
 | .mk k lo hi s w e f=>by
  intro x a
  simp only [Ty.cs,List.mem_cons,List.not_mem_nil,or_false] at a
  rcases a with rfl | rfl | rfl | rfl | rfl | rfl | rfl
  ·exact .val _
  ·exact .val _
  ·exact .val _
  ·exact .val _
  ·refine .list (fun y b=>?_) trivial
   obtain ⟨z,_,rfl⟩:=List.mem_map.1 b
   exact .val _
  ·exact .list (Vw nb nr nl e) trivial
  ·exact .list (Pg nb nr nl f) trivial
theorem Vw (nb nr nl:Nat):∀ l:List Ty,∀ x∈RH l,Under nb nr nl x
 | []=>fun _ h=>by simp [RH] at h
 | v::r=>by
  intro x hx
  simp only [RH,List.mem_cons] at hx
  rcases hx with rfl | hx
  ·exact .agg (Ty.under nb nr nl v)
  ·exact Vw nb nr nl r x hx
theorem Pg (nb nr nl:Nat):∀ l:List (Int × ByteArray × Int × Ty × List Vl),∀ x∈M4 l,Under nb nr nl x
 | []=>fun _ h=>by simp [M4] at h
 | (n,s,d,t,l)::r=>by
  intro x hx
  simp only [M4,List.mem_cons] at hx
  rcases hx with rfl | hx
  ·refine .agg fun y hy=>?_
   simp only [List.mem_cons,List.mem_append,List.not_mem_nil,or_false] at hy
   rcases hy with rfl | rfl | rfl | hy | rfl
   ·exact .val _
   ·exact .val _
   ·exact .val _
   ·exact Ty.under nb nr nl t y hy
   ·exact .list (NV nb nr nl l) trivial
  ·exact Pg nb nr nl r x hx
end
@[go_sem] theorem Zjj (nb nr nl:Nat) (l:List Vl):(∀ x∈HY l,Under nb nr nl x)↔True:=iff_true_intro (NV nb nr nl l)
theorem Ty.cs_eq (t:Ty):∃ k lo hi s w e f,t = .mk k lo hi s w e f:=by cases t;exact ⟨_,_,_,_,_,_,_,rfl⟩
@[go_sem] theorem Ty.cs_length (v:Ty):v.cs.length=7:=by cases v;rfl
@[go_sem] theorem Ty.cs_pub (v:Ty):v.cs.map AV.pubCell=v.cs:=by cases v;rfl
namespace Ty
def kind:Ty→Int | mk k _ _ _ _ _ _=>k
def min:Ty→Int | mk _ m _ _ _ _ _=>m
def max:Ty→Int | mk _ _ m _ _ _ _=>m
def scale:Ty→Int | mk _ _ _ s _ _ _=>s
def words:Ty→List ByteArray | mk _ _ _ _ w _ _=>w
def elem:Ty→List Ty | mk _ _ _ _ _ e _=>e
def fields:Ty→List (Int × ByteArray × Int × Ty × List Vl) | mk _ _ _ _ _ _ f=>f
end Ty
section
variable (v:Vl) (t:Ty) (x d:AV) (l:List AV)
@[go_sem] theorem Vl.g0:v.cs.getD 0 d = .val (.int .i64 v.kind):=by cases v;rfl
@[go_sem] theorem Vl.g1:v.cs.getD 1 d = .val (.int .i64 v.int):=by cases v;rfl
@[go_sem] theorem Vl.g2:v.cs.getD 2 d = .val (.int .i64 v.scale):=by cases v;rfl
@[go_sem] theorem Vl.g3:v.cs.getD 3 d = .val (.string v.text):=by cases v;rfl
@[go_sem] theorem Vl.g4:v.cs.getD 4 d = .list (HY v.list) .none:=by cases v;rfl
@[go_sem] theorem Vl.g5:v.cs.getD 5 d = .list (Np v.fields) .none:=by cases v;rfl
@[go_sem] theorem Vl.take6:v.cs.take 6=v.cs:=by cases v;rfl
@[go_sem] theorem Ty.g0:t.cs.getD 0 d = .val (.int .i64 t.kind):=by cases t;rfl
@[go_sem] theorem Ty.g1:t.cs.getD 1 d = .val (.int .i64 t.min):=by cases t;rfl
@[go_sem] theorem Ty.g2:t.cs.getD 2 d = .val (.int .i64 t.max):=by cases t;rfl
@[go_sem] theorem Ty.g3:t.cs.getD 3 d = .val (.int .i64 t.scale):=by cases t;rfl
@[go_sem] theorem Ty.g4:t.cs.getD 4 d = .list (t.words.map fun x => .val (.string x)) .none:=by cases t;rfl
@[go_sem] theorem Ty.g5:t.cs.getD 5 d = .list (RH t.elem) .none:=by cases t;rfl
@[go_sem] theorem Ty.g6:t.cs.getD 6 d = .list (M4 t.fields) .none:=by cases t;rfl
@[go_sem] theorem Ty.take7:t.cs.take 7=t.cs:=by cases t;rfl
@[go_sem] theorem Ty.a0:(t.cs++l).getD 0 d = .val (.int .i64 t.kind):=by cases t;rfl
@[go_sem] theorem Ty.a1:(t.cs++l).getD 1 d = .val (.int .i64 t.min):=by cases t;rfl
@[go_sem] theorem Ty.a2:(t.cs++l).getD 2 d = .val (.int .i64 t.max):=by cases t;rfl
@[go_sem] theorem Ty.a3:(t.cs++l).getD 3 d = .val (.int .i64 t.scale):=by cases t;rfl
@[go_sem] theorem Ty.a4:(t.cs++l).getD 4 d = .list (t.words.map fun x => .val (.string x)) .none:=by cases t;rfl
@[go_sem] theorem Ty.a5:(t.cs++l).getD 5 d = .list (RH t.elem) .none:=by cases t;rfl
@[go_sem] theorem Ty.a6:(t.cs++l).getD 6 d = .list (M4 t.fields) .none:=by cases t;rfl
@[go_sem] theorem Ty.a7:(t.cs++[x]).getD 7 d=x:=by cases t;rfl
@[go_sem] theorem Ty.take7a:(t.cs++l).take 7=t.cs:=by cases t;rfl
@[go_sem] theorem Ty.take8a:(t.cs++[x]).take 8=t.cs++[x]:=by cases t;rfl
@[go_sem] theorem Ty.drop7a:(t.cs++l).drop 7=l:=by cases t;rfl
attribute [go_sem] List.length_append List.map_append
end
end Go.Proofs.YtmcnjijeocmkgaaGreatDoor
namespace Go.Proofs.YtmcnjijeocmkgaaGreatDoor
open Go Go.RowKit Go.Ev
theorem Zd1 (t:ByteArray):Eb t ⟨#[]⟩=decide (t.size=0):=by
 by_cases h:t.size=0
 ·have:t=⟨#[]⟩:=by
   obtain ⟨⟨l⟩⟩:=t
   simp [ByteArray.size] at h
   subst h;rfl
  subst this
  rfl
 ·simp only [h,decide_false]
  obtain ⟨⟨l⟩⟩:=t
  simp [ByteArray.size] at h
  simp [Eb,h]
theorem TC (w0:World) (B:Am) (Rw:Aq) (L:Ar) (n low high:Int) :
  ACalls Tryz.prog w0 251 [Ak n,Ak low,Ak high] ⟨B,Rw,L⟩ fun r st=>r = .val (.bool (decide (low≤n)&&decide (n≤high)))∧st=⟨B,Rw,L⟩:=by
 refine ACalls.finP (FC (rs:=[.tmp 6]) Tryz.func251 rfl rfl Tryz.ntmps251 (Bl Tryz.func251 rfl (by decide)) (Nat.le_of_ble_eq_true rfl) ?_)
 intro M0 W0 f e d a g
 simp only [AG]
 apply An;intro K1 b
 apply Ax 1 [0,1,2]
 rw [Ap];simp +decide only [go_sem]
 (repeat' apply Ad)<;>first | refine b _ _ ?_ | exact cl
 clear b
 apply An;intro K2 c
 apply Ax 1 [6]
 rw [Ap];simp +decide only [go_sem]
 (repeat' apply Ad)<;>first | refine c _ _ ?_ | exact cl
 clear c
 apply Df;simp +decide only [go_sem]
 refine OE a pf pf pf (by simp +decide only [go_sem]) ⟨?_,rfl⟩
 rfl
theorem ZaR (w0:World) (B:Am) (Rw:Aq) (L:Ar) (a:Int) :
  ACalls Tryz.prog w0 202 [Ak a] ⟨B,Rw,L⟩ fun r st=>r = .val (.bool false)∧st=⟨B,Rw,L⟩:=by
 refine ACalls.finP (FC (rs:=[.tmp 2]) Tryz.func202 rfl rfl Tryz.ntmps202 (Bl Tryz.func202 rfl (by decide)) (Nat.le_of_ble_eq_true rfl) ?_)
 intro M0 W0 g f e b h
 simp only [AG]
 apply An;intro K1 c
 apply Ax 1 [0]
 rw [Ap];simp +decide only [go_sem]
 (repeat' apply Ad)<;>first | refine c _ _ ?_ | exact cl
 clear c
 apply An;intro K2 d
 apply Ax 1 [2]
 rw [Ap];simp +decide only [go_sem]
 (repeat' apply Ad)<;>first | refine d _ _ ?_ | exact cl
 clear d
 apply Df;simp +decide only [go_sem]
 refine OE b pf pf pf (by simp +decide only [go_sem]) ⟨?_,rfl⟩
 rw [MS]
theorem SG (w0:World) (B:Am) (Rw:Aq) (L:Ar) (a b:Int) :
  ACalls Tryz.prog w0 125 [Ak a,Ak b] ⟨B,Rw,L⟩ fun r st=>r=Ak (if a<b then -1 else if a=b then 0 else 1)∧st=⟨B,Rw,L⟩:=by
 refine ACalls.finP (FC (rs:=[.tmp 4]) Tryz.func125 rfl rfl Tryz.ntmps125 (Bl Tryz.func125 rfl (by decide)) (Nat.le_of_ble_eq_true rfl) ?_)
 intro M0 W0 v u t c w
 simp only [AG]
 apply An;intro K1 o
 apply Ax 1 [0,1]
 rw [Ap];simp +decide only [go_sem]
 (repeat' apply Ad)<;>first | refine o _ _ ?_ | exact cl
 clear o
 apply An;intro K2 p
 apply Ax 2 [0,1,5]
 rw [Ap];simp +decide only [go_sem]
 (repeat' apply Ad)<;>first | refine QC _ (ZaR w0 _ Rw L _) ?_ | exact cl
 rw [Ap];simp +decide only [go_sem]
 (repeat' apply Ad)<;>first | refine p _ _ ?_ | exact cl
 clear p
 apply An;intro K3 n
 apply Ax 2 [0,1,5,6]
 rw [Ap];simp +decide only [go_sem]
 (repeat' apply Ad)<;>first | refine QC _ (ZaR w0 _ Rw L _) ?_ | exact cl
 rw [Ap];simp +decide only [go_sem]
 (repeat' apply Ad)<;>first | refine n _ _ ?_ | exact cl
 clear n
 apply An;intro K4 s
 apply An;intro K5 q
 apply Ax 1 [0,1,6,11]
 rw [Ap];simp +decide only [go_sem]
 (repeat' apply Ad)<;>first | refine q _ _ ?_ | exact cl
 clear q
 refine Di _ (by simp +decide only [go_sem]) (by simp +decide only [go_sem];rfl) (fun d=>?_) (fun d=>?_)
 ·simp at d
 skip
 apply Dj;simp only [go_sem]
 (repeat' apply Ad)<;>first | refine s _ _ ?_ | exact cl
 clear s
 apply An;intro K10 l
 apply An;intro K11 f
 apply Ax 1 [0,1,13]
 rw [Ap];simp +decide only [go_sem]
 (repeat' apply Ad)<;>first | refine f _ _ ?_ | exact cl
 clear f
 refine Di _ (by simp +decide only [go_sem]) (by simp +decide only [go_sem];rfl) (fun d=>?_) (fun d=>?_)
 ·simp at d
 try simp at d
 apply Dj;simp only [go_sem]
 (repeat' apply Ad)<;>first | refine l _ _ ?_ | exact cl
 clear l
 apply An;intro K13 i
 apply An;intro K14 g
 apply Ax 1 [0,1,16]
 rw [Ap];simp +decide only [go_sem]
 (repeat' apply Ad)<;>first | refine g _ _ ?_ | exact cl
 clear g
 refine Di _ (by simp +decide only [go_sem]) (by simp +decide only [go_sem];rfl) (fun d=>?_) (fun d=>?_)
 ·try simp at d
  apply An;intro K15 h
  apply Ax 1 [4]
  rw [Ap];simp +decide only [go_sem]
  (repeat' apply Ad)<;>first | refine h _ _ ?_ | exact cl
  clear h
  apply Df;simp +decide only [go_sem]
  refine OE c pf pf pf (by simp +decide only [go_sem]) ⟨?_,rfl⟩
  rw [MS]
  rw [Ab]
 try simp at d
 apply Dj;simp only [go_sem]
 (repeat' apply Ad)<;>first | refine i _ _ ?_ | exact cl
 clear i
 apply An;intro K16 j
 apply An;intro K17 m
 apply Ax 1 [19]
 rw [Ap];simp +decide only [go_sem]
 (repeat' apply Ad)<;>first | refine m _ _ ?_ | exact cl
 clear m
 refine Di _ (by simp +decide only [go_sem]) (by simp +decide only [go_sem];rfl) (fun d=>?_) (fun d=>?_)
 ·try simp at d
  apply An;intro K18 k
  apply Ax 1 [4]
  rw [Ap];simp +decide only [go_sem]
  (repeat' apply Ad)<;>first | refine k _ _ ?_ | exact cl
  clear k
  apply Df;simp +decide only [go_sem]
  refine OE c pf pf pf (by simp +decide only [go_sem]) ⟨?_,rfl⟩
  rw [MS]
  rw [Aa,Aa]
 try simp at d
 apply Dj;simp only [go_sem]
 (repeat' apply Ad)<;>first | refine j _ _ ?_ | exact cl
 clear j
 apply An;intro K19 e
 apply Ax 1 [4]
 rw [Ap];simp +decide only [go_sem]
 (repeat' apply Ad)<;>first | refine e _ _ ?_ | exact cl
 clear e
 apply Df;simp +decide only [go_sem]
 refine OE c pf pf pf (by simp +decide only [go_sem]) ⟨?_,rfl⟩
 rw [MS]
 rw [Aa,Ab]
def Oa (c:Nat):Bool:=decide (97≤c)&&decide (c≤122)
def XK (c:Nat):Bool:=Oa c||decide (c=95)||(decide (48≤c)&&decide (c≤57))
def Zdy (l:List UInt8):Bool:=decide (1≤l.length∧l.length≤32)&&Oa (l.headD 0).toNat&&l.all fun c=>XK c.toNat
def Ft (s:ByteArray):Bool:=Zdy s.data.toList
theorem X2 (s:ByteArray) (k:Nat) (h:k<s.size):s.get! k=s.data.toList[k]'(by simpa using h):=by
 rw [Utf8W.get!_of_lt s k h];rfl
theorem Zgy (s:ByteArray) (f:UInt8→Bool) (k:Nat) (h:k<s.size):(s.data.toList.drop k).all f=(f (s.get! k)&&(s.data.toList.drop (k+1)).all f):=by
 rw [List.drop_eq_getElem_cons (by simpa using h),X2 s k h];rfl
theorem Zgj (s:ByteArray) (h:0<s.size):s.data.toList.headD 0=s.get! 0:=by
 rw [X2 s 0 h]
 have b:0<s.data.toList.length:=by simpa using h
 have:∀ (l:List UInt8) (q:0<l.length),l.headD 0=l[0]:=fun l q=>by
  cases l with
  | nil=>simp at q
  | cons a l=>rfl
 exact this _ b
theorem Zet (s:ByteArray) (k:Nat) (h:k<s.size):(Ih s.data.toList).getD k .junk = .val (.int .u8 (s.get! k).toNat):=by
 have a:s.data.toList.length=s.size:=by simp
 rw [X2 s k h]
 simp [Ih,a,h,List.getD]
theorem Zat (s:ByteArray):(Ih s.data.toList).length=s.size:=by
 have a:s.data.toList.length=s.size:=by simp
 simp [Ih,a]
theorem ZeL (c:Nat):XK c=decide ((97≤(c:Int)∧(c:Int)≤122)∨(c:Int)=95∨(48≤(c:Int)∧(c:Int)≤57)):=by
 rw [Bool.eq_iff_iff]
 simp [XK,Oa]
 omega
theorem Vr (c:Nat):Oa c=decide (97≤(c:Int)∧(c:Int)≤122):=by
 rw [Bool.eq_iff_iff]
 simp [Oa]
 omega
theorem Xm (s:ByteArray) (h1:1≤s.size) (h2:s.size≤32):Ft s=(Oa (s.get! 0).toNat&&s.data.toList.all fun c=>XK c.toNat):=by
 have a:s.data.toList.length=s.size:=by simp
 rw [Ft,Zdy,Ag (by omega),Zgj s h1];rfl
theorem Zcm (s:ByteArray) (h:¬ (1≤s.size∧s.size≤32)):Ft s=false:=by
 have a:s.data.toList.length=s.size:=by simp
 rw [Ft,Zdy,Ac];rfl
theorem Q1 (w0:World) (B:Am) (Rw:Aq) (L:Ar) (s:ByteArray) (hs:s.size≤maxLen) :
  ACalls Tryz.prog w0 198 [.val (.string s)] ⟨B,Rw,L⟩ fun r st=>r = .val (.bool (Ft s))∧st=⟨B,Rw,L⟩:=by
 refine ACalls.finP (FC (rs:=[.tmp 2]) Tryz.func198 rfl rfl Tryz.ntmps198 (Bl Tryz.func198 rfl (by decide)) (Nat.le_of_ble_eq_true rfl) ?_)
 intro M0 W0 N K F b Q
 unfold maxLen at hs
 have H:s.data.toList.length=s.size:=by simp
 have f:=Zd1 s
 obtain ⟨d,hd⟩:∃ d,(s.get! 0).toNat=d:=⟨_,rfl⟩
 have a:=Zat s
 simp only [AG]
 apply An;intro K1 t
 apply Ax 1 [0]
 rw [Ap];simp +decide only [go_sem,hd,a,f]
 (repeat' apply Ad)<;>first | refine t _ _ ?_ | exact cl
 clear t
 apply An;intro K2 y
 apply An;intro K3 q
 apply Ax 1 [0,21]
 rw [Ap];simp +decide only [go_sem,hd,a,f]
 (repeat' apply Ad)<;>first | refine q _ _ ?_ | exact cl
 clear q
 refine Di _ (by simp +decide only [go_sem]) (by simp +decide only [go_sem];rfl) (fun g=>?_) (fun g=>?_)
 ·simp only [Bool.or_eq_true,Bool.or_eq_false_iff,Bool.and_eq_true,Bool.and_eq_false_iff,decide_eq_true_eq,decide_eq_false_iff_not,Bool.not_eq_true',Bool.not_eq_false',Bool.not_eq_eq_eq_not,Bool.not_true,Bool.not_false] at g
  apply An;intro K4 D
  apply Ax 1 [2]
  rw [Ap];simp +decide only [go_sem,hd,a,f]
  (repeat' apply Ad)<;>first | refine D _ _ ?_ | exact cl
  clear D
  apply Df;simp +decide only [go_sem]
  refine OE b pf pf pf (by simp +decide only [go_sem]) ⟨?_,rfl⟩
  rw [MS]
  congr 2
  symm
  by_cases hz:1≤s.size∧s.size≤32
  ·rw [Xm s hz.1 hz.2,hd,Vr,Ac];rfl
  ·exact Zcm s hz
 simp only [Bool.or_eq_true,Bool.or_eq_false_iff,Bool.and_eq_true,Bool.and_eq_false_iff,decide_eq_true_eq,decide_eq_false_iff_not,Bool.not_eq_true',Bool.not_eq_false',Bool.not_eq_eq_eq_not,Bool.not_true,Bool.not_false] at g
 have G:1≤s.size∧s.size≤32∧97≤d∧d≤122:=by omega
 clear g
 have h:Oa d=true:=by rw [Vr];exact Ag (by omega)
 apply Dj;simp only [go_sem]
 (repeat' apply Ad)<;>first | refine y _ _ ?_ | exact cl
 clear y
 apply An;intro K5 z
 apply An;intro K6 u
 apply Ax 1 [23,24,25]
 rw [Ap];simp +decide only [go_sem,hd,a,f]
 (repeat' apply Ad)<;>first | refine u _ _ ?_ | exact cl
 clear u
 apply Ao
 refine AL (fun m e st=>∃ k:Nat,k≤s.size∧m=s.size-k∧Oa d=true∧(s.data.toList.all fun c=>XK c.toNat)=((s.data.toList.drop k).all fun c=>XK c.toNat)∧e=[(23,true,.list (Ih s.data.toList) .none),(24,true,Ak s.size),(25,true,Ak k)]∧st=⟨B,Rw,L⟩) s.size ⟨0,by omega,rfl,by assumption,rfl,rfl,rfl⟩ ?_
 rintro m e st ⟨k,O,rfl,J,p,rfl,rfl⟩ KR E
 obtain ⟨c,hc⟩:∃ c,(s.get! k).toNat=c:=⟨_,rfl⟩
 obtain ⟨x,hn1⟩:∃ x,(Ih s.data.toList).getD k .junk=x:=⟨_,rfl⟩
 apply An;intro K7 w
 apply Ax 1 [23,24,25,26]
 rw [Ap];simp +decide only [go_sem,hn1,a]
 (repeat' apply Ad)<;>first | refine w _ _ ?_ | exact cl
 clear w
 apply An;intro K8 C
 refine Di _ (by simp +decide only [go_sem]) (by simp +decide only [go_sem];rfl) (fun g=>?_) (fun g=>?_)
 rotate_left
 ·simp only [Bool.or_eq_true,Bool.or_eq_false_iff,Bool.and_eq_true,Bool.and_eq_false_iff,decide_eq_true_eq,decide_eq_false_iff_not,Bool.not_eq_true',Bool.not_eq_false',Bool.not_eq_eq_eq_not,Bool.not_true,Bool.not_false] at g
  apply LK;simp +decide only [go_sem,hn1,a]
  (repeat' apply Ad)<;>first | refine z _ _ ?_ | exact cl
  clear z
  apply An;intro K9 v
  apply Ax 1 [2]
  rw [Ap];simp +decide only [go_sem,hn1,a]
  (repeat' apply Ad)<;>first | refine v _ _ ?_ | exact cl
  clear v
  apply Df;simp +decide only [go_sem]
  refine OE b pf pf pf (by simp +decide only [go_sem]) ⟨?_,rfl⟩
  rw [MS]
  have:k=s.size:=by omega
  subst this
  rw [Xm s (by omega) (by omega),hd,h,p,List.drop_eq_nil_of_le (by omega)];rfl
 simp only [Bool.or_eq_true,Bool.or_eq_false_iff,Bool.and_eq_true,Bool.and_eq_false_iff,decide_eq_true_eq,decide_eq_false_iff_not,Bool.not_eq_true',Bool.not_eq_false',Bool.not_eq_eq_eq_not,Bool.not_true,Bool.not_false] at g
 have i:=Zgy s (fun c=>XK c.toNat) k (by omega)
 simp only [hc] at i
 rw [ZeL c] at i
 have hn2:=Zet s k (by omega)
 rw [hn1,hc] at hn2
 subst hn2
 apply Dj;simp only [go_sem]
 (repeat' apply Ad)<;>first | refine C _ _ ?_ | exact cl
 clear C
 apply An;intro K10 n
 apply Ao
 apply An;intro K11 j
 apply Ax 1 [4,23,24,25]
 rw [Ap];simp +decide only [go_sem,hn1,a]
 (repeat' apply Ad)<;>first | refine j _ _ ?_ | exact cl
 clear j
 apply An;intro K12 o
 apply Ax 1 [23,24,25,46]
 rw [Ap];simp +decide only [go_sem,hn1,a]
 (repeat' apply Ad)<;>first | refine o _ _ ?_ | exact cl
 clear o
 refine Di _ (by simp +decide only [go_sem]) (by simp +decide only [go_sem];rfl) (fun g=>?_) (fun g=>?_)
 ·simp only [Bool.or_eq_true,Bool.or_eq_false_iff,Bool.and_eq_true,Bool.and_eq_false_iff,decide_eq_true_eq,decide_eq_false_iff_not,Bool.not_eq_true',Bool.not_eq_false',Bool.not_eq_eq_eq_not,Bool.not_true,Bool.not_false] at g
  apply An;intro K13 l
  apply Ax 1 [2]
  rw [Ap];simp +decide only [go_sem,hn1,a]
  (repeat' apply Ad)<;>first | refine l _ _ ?_ | exact cl
  clear l
  apply Df;simp +decide only [go_sem]
  refine OE b pf pf pf (by simp +decide only [go_sem]) ⟨?_,rfl⟩
  rw [MS]
  rw [Xm s (by omega) (by omega),hd,h,p,i,Ac];rfl
 simp only [Bool.or_eq_true,Bool.or_eq_false_iff,Bool.and_eq_true,Bool.and_eq_false_iff,decide_eq_true_eq,decide_eq_false_iff_not,Bool.not_eq_true',Bool.not_eq_false',Bool.not_eq_eq_eq_not,Bool.not_true,Bool.not_false] at g
 apply Dj;simp only [go_sem]
 (repeat' apply Ad)<;>first | refine n _ _ ?_ | exact cl
 clear n
 apply Ax 1 [23,24,25]
 rw [Ap];simp +decide only [go_sem,hn1,a]
 (repeat' apply Ad)<;>first | refine E (s.size-(k+1)) _ _ ?_ ⟨k+1,?_,rfl,?_,?_,?_,rfl⟩ | exact cl
 ·omega
 ·omega
 ·exact h
 ·rw [p,i,Ag (by omega)];rfl
 ·simp
def E6 (a b:ByteArray):Int:=Lib.compareBytes a.data.toList b.data.toList
theorem ZbN (w0:World) (st:St) (a b:ByteArray):ACalls Tryz.prog w0 126 [.val (.string a),.val (.string b)] st fun v s'=>v=Ak (E6 a b)∧s'=st :=
 MC (Bl Tryz.func126 rfl (by decide)) rfl fun M w d i c=>by
  have:=TG (us:=[.string a,.string b]) c
  subst this
  exact (Tryz.strings_Compare a b w).mono fun e h ⟨g,f⟩=>⟨g,f▸Below.refl _ _⟩
theorem Zek (w0:World) (st:St) (hT:Lib.Utf8Tabs 2 3 w0) (s:ByteArray) (hs:s.size≤maxLen):ACalls Tryz.prog w0 222 [.val (.string s)] st fun v s'=>v = .val (.bool (Lib.validD s.data.toList))∧s'=st :=
 MC (Bl Tryz.func222 rfl (by decide)) rfl fun M w b c a=>by
  have:=TG (us:=[.string s]) a
  subst this
  exact Any.utf8_ValidString Tryz.laysValid s w hs (Utf8Tabs_below hT c)
theorem Zcl (w0:World) (st:St) (s:ByteArray) (c:Nat) (hc:c≤9223372036854775807) (hlen:s.size*c≤140737488355328):ACalls Tryz.prog w0 194 [.val (.string s),Ak c] st fun v s'=>v = .val (.string ⟨(Lib.repeatL s.data.toList c).toArray⟩)∧s'=st :=
 MC (Bl Tryz.func194 rfl (by decide)) (by
  have:(Lib.repeatL s.data.toList c).length=c*s.size:=by rw [Lib.repeatL_length];simp
  have d:c*s.size≤140737488355328:=by rw [Nat.mul_comm];exact hlen
  show decide ((Lib.repeatL s.data.toList c).toArray.size≤maxLen)=true
  rw [List.size_toArray,this]
  exact Ag (Nat.le_trans d (by unfold maxLen;omega))) fun M w b e a=>by
  have:=TG (us:=[.string s,.int .i64 c]) a
  subst this
  exact Tryz.strings_Repeat s c w hc hlen
def Bn (v:Vl):List Vl:=if v.kind=8∨v.kind=10 then v.list else if v.kind=9 then v.fields.map (·.2) else []
@[go_sem] theorem Zjk (l:List Vl):(∀ y∈HY l,y.cells.length=6)↔True:=iff_true_intro (by
 rw [JI];intro y a
 obtain ⟨v,_,rfl⟩:=List.mem_map.1 a
 exact v.cs_length)
theorem ZeC (l:List Vl) (k:Nat) (h:k<l.length):(HY l).getD k .junk = .agg (l[k]).cs:=by
 simp [JI,List.getD,h]
theorem Zeq (l:List (ByteArray × Vl)) (k:Nat) (h:k<l.length):(Np l).getD k .junk = .agg (.val (.string (l[k]).1)::(l[k]).2.cs):=by
 simp [Ro,List.getD,h]
theorem ZcU (l:List (ByteArray × Vl)) (k:Nat) (h:k<l.length):HY ((l.take (k+1)).map (·.2))=HY ((l.take k).map (·.2))++[.agg (l[k]).2.cs]:=by
 rw [JI,JI,List.take_succ_eq_append_getElem h,List.map_append,List.map_append];rfl
theorem Zbj (l:List (ByteArray × Vl)) (k:Nat) (h:k≤l.length):(HY ((l.take k).map (·.2))).length=k:=by
 rw [TK,List.length_map,List.length_take];omega
theorem Zga (w0:World) (B:Am) (Rw:Aq) (L:Ar) (v:Vl) (hl:v.list.length≤1000000000000) (hf:v.fields.length≤1000000000000) :
  ACalls Tryz.prog w0 280 [.agg v.cs] ⟨B,Rw,L⟩ fun r st=>r = .list (HY (Bn v)) .none∧st=⟨B,Rw,L⟩:=by
 refine ACalls.finP (FC (rs:=[.tmp 2]) Tryz.func280 rfl rfl Tryz.ntmps280 (Bl Tryz.func280 rfl (by decide)) (Nat.le_of_ble_eq_true rfl) ?_)
 intro M0 W0 U Q N a V
 have K:=Z5 v.fields
 simp only [AG]
 apply An;intro K1 D
 apply Ax 1 [1]
 rw [Ap];simp +decide only [go_sem]
 (repeat' apply Ad)<;>first | refine D _ _ ?_ | exact cl
 clear D
 apply An;intro K2 E
 apply An;intro K3 z
 apply Ax 1 [1,7]
 rw [Ap];simp +decide only [go_sem]
 (repeat' apply Ad)<;>first | refine z _ _ ?_ | exact cl
 clear z
 apply Ao
 apply An;intro K4 f
 apply An;intro K5 F
 apply Ax 1 [1,7,8]
 rw [Ap];simp +decide only [go_sem]
 (repeat' apply Ad)<;>first | refine F _ _ ?_ | exact cl
 clear F
 refine Di _ (by simp +decide only [go_sem]) (by simp +decide only [go_sem];rfl) (fun b=>?_) (fun b=>?_)
 -- JOIN
 ·simp only [Bool.or_eq_true,Bool.or_eq_false_iff,Bool.and_eq_true,Bool.and_eq_false_iff,decide_eq_true_eq,decide_eq_false_iff_not,Bool.not_eq_true',Bool.not_eq_false',Bool.not_eq_eq_eq_not,Bool.not_true,Bool.not_false] at b
  apply Dj;simp only [go_sem]
  (repeat' apply Ad)<;>first | refine f _ _ ?_ | exact cl
  clear f
  refine Di _ (by simp +decide only [go_sem]) (by simp +decide only [go_sem];rfl) (fun b=>?_) (fun b=>?_)
  ·simp only [Bool.or_eq_true,Bool.or_eq_false_iff,Bool.and_eq_true,Bool.and_eq_false_iff,decide_eq_true_eq,decide_eq_false_iff_not,Bool.not_eq_true',Bool.not_eq_false',Bool.not_eq_eq_eq_not,Bool.not_true,Bool.not_false] at b
   apply An;intro K6 C
   apply Ax 1 [2]
   rw [Ap];simp +decide only [go_sem]
   (repeat' apply Ad)<;>first | refine C _ _ ?_ | exact cl
   clear C
   apply Df;simp +decide only [go_sem]
   refine OE a pf pf pf ?_ ⟨?_,rfl⟩
   ·simp +decide only [go_sem]
   ·simp only [go_sem]
    rw [Bn,Ab]
  simp only [Bool.or_eq_true,Bool.or_eq_false_iff,Bool.and_eq_true,Bool.and_eq_false_iff,decide_eq_true_eq,decide_eq_false_iff_not,Bool.not_eq_true',Bool.not_eq_false',Bool.not_eq_eq_eq_not,Bool.not_true,Bool.not_false] at b
  omega
 simp only [Bool.or_eq_true,Bool.or_eq_false_iff,Bool.and_eq_true,Bool.and_eq_false_iff,decide_eq_true_eq,decide_eq_false_iff_not,Bool.not_eq_true',Bool.not_eq_false',Bool.not_eq_eq_eq_not,Bool.not_true,Bool.not_false] at b
 apply Ax 1 [1,7,8]
 rw [Ap];simp +decide only [go_sem]
 (repeat' apply Ad)<;>first | refine f _ _ ?_ | exact cl
 clear f
 refine Di _ (by simp +decide only [go_sem]) (by simp +decide only [go_sem];rfl) (fun b=>?_) (fun b=>?_)
 ·simp only [Bool.or_eq_true,Bool.or_eq_false_iff,Bool.and_eq_true,Bool.and_eq_false_iff,decide_eq_true_eq,decide_eq_false_iff_not,Bool.not_eq_true',Bool.not_eq_false',Bool.not_eq_eq_eq_not,Bool.not_true,Bool.not_false] at b
  apply An;intro K17 t
  apply Ax 1 [2]
  rw [Ap];simp +decide only [go_sem]
  (repeat' apply Ad)<;>first | refine t _ _ ?_ | exact cl
  clear t
  apply Df;simp +decide only [go_sem]
  refine OE a pf pf pf ?_ ⟨?_,rfl⟩
  ·simp +decide only [go_sem]
  ·simp only [go_sem]
   rw [Bn,Ab]
 simp only [Bool.or_eq_true,Bool.or_eq_false_iff,Bool.and_eq_true,Bool.and_eq_false_iff,decide_eq_true_eq,decide_eq_false_iff_not,Bool.not_eq_true',Bool.not_eq_false',Bool.not_eq_eq_eq_not,Bool.not_true,Bool.not_false] at b
 apply An;intro K18 q
 apply Ax 1 [1,13]
 rw [Ap];simp +decide only [go_sem]
 (repeat' apply Ad)<;>first | refine q _ _ ?_ | exact cl
 clear q
 refine Di _ (by simp +decide only [go_sem]) (by simp +decide only [go_sem];rfl) (fun b=>?_) (fun b=>?_)
 ·simp only [Bool.or_eq_true,Bool.or_eq_false_iff,Bool.and_eq_true,Bool.and_eq_false_iff,decide_eq_true_eq,decide_eq_false_iff_not,Bool.not_eq_true',Bool.not_eq_false',Bool.not_eq_eq_eq_not,Bool.not_true,Bool.not_false] at b
  apply An;intro K19 g
  apply Ax 1 [1,3]
  rw [Ap];simp +decide only [go_sem]
  (repeat' apply Ad)<;>first | refine g _ _ ?_ | exact cl
  clear g
  apply An;intro K20 s
  apply An;intro K21 p
  apply Ax 1 [3,16,17,18]
  rw [Ap];simp +decide only [go_sem]
  (repeat' apply Ad)<;>first | refine p _ _ ?_ | exact cl
  clear p
  apply Ao
  refine AL (fun m e st=>∃ (k:Nat) (o:Ev.Own) (r:Aq) (X:Am),k≤v.fields.length∧m=v.fields.length-k∧Grow Rw 6 (HY ((v.fields.take k).map (·.2))) o r ∧
   e=[(3,true,.list (HY ((v.fields.take k).map (·.2))) o),(16,true,.list (Np v.fields) .none),(17,true,Ak v.fields.length),(18,true,Ak k)]∧st=⟨B++X,Rw++r,L⟩) v.fields.length ⟨0,.full,[],[v.cs],by omega,rfl,.nil _ _,rfl,by simp⟩ ?_
  rintro m e st ⟨k,o,r,X,O,rfl,G,rfl,rfl⟩ KR J
  obtain ⟨x,hx⟩:∃ x,(Np v.fields).getD k .junk=x:=⟨_,rfl⟩
  have c:=Yr (P:=Tryz.prog) LS (by rw [HF];rfl) (by decide) G
  have d:=Zbj v.fields k O
  apply An;intro K22 h
  apply Ax 1 [3,16,17,18,19]
  rw [Ap];simp +decide only [go_sem,hx,c,d]
  (repeat' apply Ad)<;>first | refine h _ _ ?_ | exact cl
  clear h
  apply An;intro K23 l
  refine Di _ (by simp +decide only [go_sem]) (by simp +decide only [go_sem];rfl) (fun b=>?_) (fun b=>?_)
  rotate_left
  ·simp only [Bool.or_eq_true,Bool.or_eq_false_iff,Bool.and_eq_true,Bool.and_eq_false_iff,decide_eq_true_eq,decide_eq_false_iff_not,Bool.not_eq_true',Bool.not_eq_false',Bool.not_eq_eq_eq_not,Bool.not_true,Bool.not_false] at b
   apply LK;simp +decide only [go_sem,hx,c,d]
   (repeat' apply Ad)<;>first | refine s _ _ ?_ | exact cl
   clear s
   apply An;intro K24 i
   apply Ax 1 [2]
   rw [Ap];simp +decide only [go_sem,hx,c,d]
   (repeat' apply Ad)<;>first | refine i _ _ ?_ | exact cl
   clear i
   apply Df;simp +decide only [go_sem]
   refine OE a pf pf pf ?_ ⟨?_,rfl⟩
   ·simp +decide only [go_sem]
   ·simp only [go_sem]
    rw [Bn,Aa,Ab,List.take_of_length_le (by omega)]
  simp only [Bool.or_eq_true,Bool.or_eq_false_iff,Bool.and_eq_true,Bool.and_eq_false_iff,decide_eq_true_eq,decide_eq_false_iff_not,Bool.not_eq_true',Bool.not_eq_false',Bool.not_eq_eq_eq_not,Bool.not_true,Bool.not_false] at b
  have w:k<v.fields.length:=by omega
  have hx2:=Zeq v.fields k w
  rw [hx] at hx2
  subst hx2
  have H:=ZcU v.fields k w
  have y:=Zbj v.fields (k+1) (by omega)
  apply Dj;simp only [go_sem]
  (repeat' apply Ad)<;>first | refine l _ _ ?_ | exact cl
  clear l
  apply An;intro K25 j
  apply Ao
  apply An;intro K26 u
  apply Ax 1 [3,5,16,17,18]
  rw [Ap];simp +decide only [go_sem,hx,c,d]
  (repeat' apply Ad)<;>first | refine u _ _ ?_ | exact cl
  clear u
  apply Ax 1 [3,16,17,18]
  rw [Ap];simp +decide only [go_sem,hx,c,d]
  (repeat' apply Ad)<;>first | refine j _ _ ?_ | exact cl
  clear j
  apply Ax 1 [3,16,17,18]
  rw [Ap];simp +decide only [go_sem,hx,c,d]
  (repeat' apply Ad)<;>first | refine J (v.fields.length-(k+1)) _ _ ?_ ⟨k+1,.row Rw.length,[.grow (k+1) 6],_,?_,rfl,.more _ _ _ _ y,?_,rfl⟩ | exact cl
  ·omega
  ·omega
  ·rw [H];simp
 simp only [Bool.or_eq_true,Bool.or_eq_false_iff,Bool.and_eq_true,Bool.and_eq_false_iff,decide_eq_true_eq,decide_eq_false_iff_not,Bool.not_eq_true',Bool.not_eq_false',Bool.not_eq_eq_eq_not,Bool.not_true,Bool.not_false] at b
 apply Dj;simp only [go_sem]
 (repeat' apply Ad)<;>first | refine E _ _ ?_ | exact cl
 clear E
 apply An;intro K27 n
 apply Ax 1 [2]
 rw [Ap];simp +decide only [go_sem]
 (repeat' apply Ad)<;>first | refine n _ _ ?_ | exact cl
 clear n
 apply Df;simp +decide only [go_sem]
 refine OE a pf pf pf ?_ ⟨?_,rfl⟩
 ·simp +decide only [go_sem]
 ·simp only [go_sem]
  rw [Bn,Aa,Aa];rfl
mutual
def F8 (lv:Nat):Vl→List (Nat × Vl)
 | .mk k i s t l f=>(lv,.mk k i s t l f)::(if k=8∨k=10 then Zd5 (lv+1) l else if k=9 then ZdR (lv+1) f else [])
def Zd5 (lv:Nat):List Vl→List (Nat × Vl)
 | []=>[]
 | v::r=>F8 lv v++Zd5 lv r
def ZdR (lv:Nat):List (ByteArray × Vl)→List (Nat × Vl)
 | []=>[]
 | (_,v)::r=>F8 lv v++ZdR lv r
end
theorem Zbu (lv:Nat):∀ l,Zd5 lv l=l.flatMap (F8 lv)
 | []=>rfl
 | v::r=>by simp [Zd5,Zbu lv r]
theorem Zbl (lv:Nat):∀ l,ZdR lv l=(l.map (·.2)).flatMap (F8 lv)
 | []=>rfl
 | (_,v)::r=>by simp [ZdR,Zbl lv r]
theorem NB (lv:Nat) (v:Vl):F8 lv v=(lv,v)::(Bn v).flatMap (F8 (lv+1)):=by
 obtain ⟨k,i,s,t,l,f⟩:=v
 simp only [F8,Bn,Vl.kind,Vl.list,Vl.fields,Zbu,Zbl]
 by_cases h1:k=8∨k=10
 ·simp only [h1,if_true]
 ·by_cases h2:k=9
  ·subst h2;simp
  ·simp only [h1,h2,if_false,List.flatMap_nil]
theorem ZaB {α β:Type} (f:α→List β) (l:List α) (q:Nat) (h:q<l.length):((l.take (q+1)).flatMap f).length=((l.take q).flatMap f).length+(f l[q]).length:=by
 rw [List.take_succ_eq_append_getElem h,List.flatMap_append,List.length_append];simp
theorem Zbp {α β:Type} (f:α→List β) (l:List α) (q:Nat) (h:q<l.length) (j:Nat) (x:β) (hx:(f l[q])[j]? = some x):(l.flatMap f)[((l.take q).flatMap f).length+j]? = some x:=by
 have e:l=l.take q++l[q]::l.drop (q+1):=by rw [←List.drop_eq_getElem_cons h,List.take_append_drop]
 have a:l.flatMap f=(l.take q).flatMap f++(f l[q]++(l.drop (q+1)).flatMap f):=by
  conv=>lhs;rw [e]
  rw [List.flatMap_append,List.flatMap_cons]
 rw [a,List.getElem?_append_right (by omega),Nat.add_sub_cancel_left,List.getElem?_append_left (Aj.1 hx).1,hx]
theorem PV:∀ (l:List Vl) (v:Vl),v∈l→v.size≤CJ l
 | [],_,h=>by simp at h
 | a::r,v,h=>by
  rcases List.mem_cons.1 h with rfl | h
  ·simp [CJ]
  ·have:=PV r v h
   simp [CJ];omega
theorem Ns:∀ (l:List (ByteArray × Vl)) (p:ByteArray × Vl),p∈l→p.2.size≤Bi l
 | [],_,h=>by simp at h
 | (n,a)::r,p,h=>by
  rcases List.mem_cons.1 h with rfl | h
  ·simp [Bi]
  ·have:=Ns r p h
   simp [Bi];omega
theorem Vl.size_pos (v:Vl):0<v.size:=by cases v;simp [Vl.size];omega
theorem Pl:∀ l:List Vl,l.length≤CJ l
 | []=>Nat.le_refl _
 | v::r=>by have:=Pl r;have:=v.size_pos;simp [CJ];omega
theorem Nv:∀ l:List (ByteArray × Vl),l.length≤Bi l
 | []=>Nat.le_refl _
 | (n,v)::r=>by have:=Nv r;have:=v.size_pos;simp [Bi];omega
theorem Vl.size_eq (v:Vl):v.size=1+CJ v.list+Bi v.fields:=by cases v;simp [Vl.size,Vl.list,Vl.fields]
theorem ZeP (v x:Vl) (h:x∈Bn v):x.size<v.size:=by
 have e:=v.size_eq
 unfold Bn at h
 split at h
 ·have:=PV _ _ h;omega
 ·split at h
  ·obtain ⟨p,a,rfl⟩:=List.mem_map.1 h
   have:=Ns _ _ a;omega
  ·simp at h
theorem IM (v:Vl):v.list.length<v.size∧v.fields.length<v.size∧(Bn v).length<v.size:=by
 have e:=v.size_eq
 have a:=Pl v.list
 have b:=Nv v.fields
 refine ⟨by omega,by omega,?_⟩
 unfold Bn
 split
 ·omega
 ·split
  ·simp;omega
  ·simp;omega
mutual
def Vl.wide:Vl→Bool
 | .mk _ _ _ _ l f=>decide (l.length≤1000000000000)&&decide (f.length≤1000000000000)&&Xx l&&XC f
def Xx:List Vl→Bool
 | []=>true
 | v::r=>v.wide&&Xx r
def XC:List (ByteArray × Vl)→Bool
 | []=>true
 | (_,v)::r=>v.wide&&XC r
end
theorem W9:∀ l,Xx l=true↔∀ v∈l,v.wide=true
 | []=>by simp [Xx]
 | v::r=>by simp [Xx,W9 r]
theorem Wy:∀ l,XC l=true↔∀ p∈l,p.2.wide=true
 | []=>by simp [XC]
 | (n,v)::r=>by simp [XC,Wy r]
theorem Vl.wide_iff (v:Vl):v.wide=true↔v.list.length≤1000000000000∧v.fields.length≤1000000000000∧(∀ x∈v.list,x.wide=true)∧∀ p∈v.fields,p.2.wide=true:=by
 cases v;simp only [Vl.wide,Bool.and_eq_true,decide_eq_true_eq,W9,Wy,Vl.list,Vl.fields,and_assoc]
theorem YA {v x:Vl} (h:v.wide=true) (hx:x∈Bn v):x.wide=true:=by
 obtain ⟨_,_,a,c⟩:=v.wide_iff.1 h
 unfold Bn at hx
 split at hx
 ·exact a x hx
 ·split at hx
  ·obtain ⟨p,b,rfl⟩:=List.mem_map.1 hx
   exact c p b
  ·simp at hx
theorem J3:∀ (k:Nat) (v:Vl),v.size≤k→v.size≤1000000000000→v.wide=true
 | 0,v,h,_=>by have:=v.size_pos;omega
 | k+1,v,h,h2=>by
  have e:=v.size_eq
  obtain ⟨a,b,_⟩:=IM v
  refine v.wide_iff.2 ⟨by omega,by omega,fun x c=>?_,fun p d=>?_⟩
  ·have:=PV _ _ c;exact J3 k x (by omega) (by omega)
  ·have:=Ns _ _ d;exact J3 k p.2 (by omega) (by omega)
mutual
def Vl.depth:Vl→Nat
 | .mk _ _ _ _ l f=>1+max (GE l) (Gz f)
def GE:List Vl→Nat
 | []=>0
 | t::r=>max t.depth (GE r)
def Gz:List (ByteArray × Vl)→Nat
 | []=>0
 | (_,t)::r=>max t.depth (Gz r)
end
theorem Ie:∀ (l:List Vl) (d:Nat),GE l≤d↔∀ v∈l,v.depth≤d
 | [],d=>by simp [GE]
 | v::r,d=>by simp [GE,Nat.max_le,Ie r d]
theorem Jn:∀ (l:List (ByteArray × Vl)) (d:Nat),Gz l≤d↔∀ v∈l,v.2.depth≤d
 | [],d=>by simp [Gz]
 | (_,t)::r,d=>by simp [Gz,Nat.max_le,Jn r d]
theorem Vl.depth_eq (v:Vl):v.depth=1+Max.max (GE v.list) (Gz v.fields):=by cases v;simp [Vl.depth,Vl.list,Vl.fields]
theorem depth_part {v x:Vl} (h:x∈Bn v):x.depth<v.depth:=by
 have e:=v.depth_eq
 unfold Bn at h
 split at h
 ·have:=(Ie v.list _).1 (Nat.le_refl _) x h;omega
 ·split at h
  ·obtain ⟨p,a,rfl⟩:=List.mem_map.1 h
   have:=(Jn v.fields _).1 (Nat.le_refl _) p a;omega
  ·simp at h
mutual
theorem Vl.depth_size:∀ v:Vl,v.depth≤v.size
 | .mk _ _ _ _ l f=>by have:=S8 l;have:=TD f;simp only [Vl.depth,Vl.size];omega
theorem S8:∀ l:List Vl,GE l≤CJ l
 | []=>Nat.le_refl _
 | v::r=>by have:=v.depth_size;have:=S8 r;simp only [GE,CJ];omega
theorem TD:∀ l:List (ByteArray × Vl),Gz l≤Bi l
 | []=>Nat.le_refl _
 | (_,v)::r=>by have:=v.depth_size;have:=TD r;simp only [Gz,Bi];omega
end
def ZdE (p:Nat × Vl):List AV:=[Ak p.1,.agg p.2.cs]
def Zda (w0:World) (items:Am) (k:Nat) (J:Nat→St→Prop) (Jx:St→Prop):Prop :=
 ∀ i SB SR SL x XB XL,J i ⟨SB,SR,SL⟩→items[i]? = some x→X1 Tryz.prog w0 k x ⟨SB++XB,SR,SL++XL⟩ fun r s'=>∃ TB TR TL b,r = .val (.bool b)∧s'=⟨TB++XB,TR,TL++XL⟩∧TB.length=SB.length∧SR.length≤TR.length∧TL.length=SL.length∧(b=true→J (i+1) ⟨TB,TR,TL⟩)∧(b=false→Jx ⟨TB,TR,TL⟩)
def Zc2 (w0:World) (items:Am) (k:Nat) (J:Nat→St→Prop) (Jx:St→Prop) (v:Vl):Prop :=
 ∀ (lv i:Nat) (lvi:Int) SB SR SL XB XL,lv+v.depth≤4611686018427387904→v.wide=true→J i ⟨SB,SR,SL⟩→lvi=lv→(∀ j x,(F8 lv v)[j]? = some x→items[i+j]? = some (ZdE x)) →
  ACalls Tryz.prog w0 230 [.agg v.cs,Ak lvi,.yld k] ⟨SB++XB,SR,SL++XL⟩ fun r s'=>∃ TB TR TL XB' b,r = .val (.bool b)∧s'=⟨TB++(XB++XB'),TR,TL++XL⟩∧TB.length=SB.length∧SR.length≤TR.length∧TL.length=SL.length∧(b=true→J (i+(F8 lv v).length) ⟨TB,TR,TL⟩)∧(b=false→Jx ⟨TB,TR,TL⟩)
theorem Zcd (w0:World) (items:Am) (k:Nat) (J:Nat→St→Prop) (Jx:St→Prop) (hY:Zda w0 items k J Jx) (v:Vl) (ih:∀ x,x.size<v.size→Zc2 w0 items k J Jx x):Zc2 w0 items k J Jx v:=by
 intro d i ah SB SR SL XB XL ai g h0 hle y
 subst hle
 obtain ⟨F,s,_⟩:=v.wide_iff.1 g
 have U:(Bn v).length≤1000000000000:=by
  unfold Bn
  split
  ·exact F
  ·split
   ·simpa using s
   ·simp
 refine FC (rs:=[.tmp 6]) Tryz.func230 rfl rfl Tryz.ntmps230 (Bl Tryz.func230 rfl (by decide)) (Nat.le_of_ble_eq_true rfl) ?_
 intro M0 W0 hN aj af Y hu
 obtain ⟨ag,ae,aa⟩:=IM v
 have f:=NB d v
 have c:=TK (Bn v)
 obtain ⟨ps,hpe⟩:∃ ps,Bn v=ps:=⟨_,rfl⟩
 have N:items[i]? = some (ZdE (d,v)):=by
  have:=y 0 (d,v) (by rw [f];rfl)
  simpa using this
 simp only [AG]
 apply An;intro K1 w
 apply Ax 1 [1,2,3]
 rw [Ap];simp +decide only [go_sem]
 (repeat' apply Ad)<;>first | refine w _ _ ?_ | exact cl
 clear w
 apply An;intro K2 E
 apply An;intro K3 t
 apply Ax 2 [1,2,3,13]
 rw [Ap];simp +decide only [go_sem]
 (repeat' apply Ad)<;>first | refine ZaS _ (fun _=>hY i SB SR SL _ (XB++[v.cs]) XL h0 N) (fun r s' hp _=>?_) | exact cl
 obtain ⟨TB,TR,TL,b,rfl,rfl,l1,l2,l3,V,hp2⟩:=hp rfl
 rw [←l1]
 rw [Ap];simp +decide only [go_sem]
 (repeat' apply Ad)<;>first | refine t _ _ ?_ | exact cl
 clear t
 refine Di _ (by simp +decide only [go_sem]) (by simp +decide only [go_sem];rfl) (fun hb=>?_) (fun hb=>?_)
 ·simp only [Bool.not_eq_true'] at hb
  apply An;intro K4 K
  apply Ax 1 [6]
  rw [Ap];simp +decide only [go_sem]
  (repeat' apply Ad)<;>first | refine K _ _ ?_ | exact cl
  clear K
  apply Df;simp +decide only [go_sem]
  exact ⟨TB,TR,TL,[v.cs],false,rfl,rfl,l1,l2,l3,fun h=>(by cases h),fun _=>hp2 hb⟩
 simp only [Bool.not_eq_false'] at hb
 apply Dj;simp only [go_sem]
 (repeat' apply Ad)<;>first | refine E _ _ ?_ | exact cl
 clear E
 apply An;intro K5 G
 apply An;intro K6 u
 apply Ax 2 [1,2,15,16,17]
 rw [Ap];simp +decide only [go_sem]
 (repeat' apply Ad)<;>first | refine QC _ (Zga w0 _ TR _ v F s) ?_ | exact cl
 rw [hpe] at c aa U f ⊢
 rw [Ap];simp +decide only [go_sem]
 (repeat' apply Ad)<;>first | refine u _ _ ?_ | exact cl
 clear u
 apply Ao
 refine AL (fun m e st=>∃ (q:Nat) (UB:Am) (UR:Aq) (UL:Ar) (XB':Am),q≤ps.length∧m=ps.length-q∧J (i+1+((ps.take q).flatMap (F8 (d+1))).length) ⟨UB,UR,UL⟩∧UB.length=SB.length∧SR.length≤UR.length∧UL.length=SL.length∧e=[(1,true,Ak d),(2,true,.yld k),(15,true,.list (HY ps) .none),(16,true,Ak ps.length),(17,true,Ak q)]∧st=⟨UB++(XB++XB'),UR,UL++XL⟩) ps.length ⟨0,TB,TR,TL,[v.cs],by omega,rfl,by simpa using V hb,l1,l2,l3,rfl,by simp⟩ ?_
 rintro m e st ⟨q,UB,UR,UL,XB',hq,rfl,O,m1,m2,m3,rfl,rfl⟩ KR Z
 obtain ⟨x,hx⟩:∃ x,(HY ps).getD q .junk=x:=⟨_,rfl⟩
 apply An;intro K7 D
 apply Ax 1 [1,2,15,16,17,18]
 rw [Ap];simp +decide only [go_sem,hx,c]
 (repeat' apply Ad)<;>first | refine D _ _ ?_ | exact cl
 clear D
 apply An;intro K8 H
 refine Di _ (by simp +decide only [go_sem]) (by simp +decide only [go_sem];rfl) (fun hb=>?_) (fun hb=>?_)
 rotate_left
 ·simp only [Bool.or_eq_true,Bool.or_eq_false_iff,Bool.and_eq_true,Bool.and_eq_false_iff,decide_eq_true_eq,decide_eq_false_iff_not,Bool.not_eq_true',Bool.not_eq_false',Bool.not_eq_eq_eq_not,Bool.not_true,Bool.not_false] at hb
  apply LK;simp +decide only [go_sem,hx,c]
  (repeat' apply Ad)<;>first | refine G _ _ ?_ | exact cl
  clear G
  apply An;intro K9 C
  apply Ax 1 [6]
  rw [Ap];simp +decide only [go_sem,hx,c]
  (repeat' apply Ad)<;>first | refine C _ _ ?_ | exact cl
  clear C
  apply Df;simp +decide only [go_sem]
  refine ⟨UB,UR,UL,XB',true,rfl,rfl,m1,m2,m3,fun _=>?_,fun h=>(by cases h)⟩
  rw [List.take_of_length_le (by omega)] at O
  rw [f,List.length_cons,show i+((ps.flatMap (F8 (d+1))).length+1)=i+1+(ps.flatMap (F8 (d+1))).length by omega]
  exact O
 simp only [Bool.or_eq_true,Bool.or_eq_false_iff,Bool.and_eq_true,Bool.and_eq_false_iff,decide_eq_true_eq,decide_eq_false_iff_not,Bool.not_eq_true',Bool.not_eq_false',Bool.not_eq_eq_eq_not,Bool.not_true,Bool.not_false] at hb
 have a:q<ps.length:=by omega
 have hx2:=ZeC ps q a
 rw [hx] at hx2
 subst hx2
 have Q:=ZaB (F8 (d+1)) ps q a
 have z:∀ j x,(F8 (d+1) (ps[q]'a))[j]? = some x→items[i+1+((ps.take q).flatMap (F8 (d+1))).length+j]? = some (ZdE x):=fun j x ad=>by
  have h1:=Zbp (F8 (d+1)) ps q a j x ad
  have h2:=y (((ps.take q).flatMap (F8 (d+1))).length+j+1) x (by rw [f,List.getElem?_cons_succ,h1])
  rw [show i+1+((ps.take q).flatMap (F8 (d+1))).length+j=i+(((ps.take q).flatMap (F8 (d+1))).length+j+1) by omega]
  exact h2
 apply Dj;simp only [go_sem]
 (repeat' apply Ad)<;>first | refine H _ _ ?_ | exact cl
 clear H
 apply An;intro K10 o
 apply Ao
 apply An;intro K11 l
 apply Ax 1 [1,2,8,15,16,17]
 rw [Ap];simp +decide only [go_sem,hx,c]
 (repeat' apply Ad)<;>first | refine l _ _ ?_ | exact cl
 clear l
 apply An;intro K12 p
 apply Ax 2 [1,2,15,16,17,26]
 rw [Ap];simp +decide only [go_sem,hx,c]
 (repeat' apply Ad)<;>first | refine Xz _ (ih (ps[q]'a) (ZeP v _ (by rw [hpe];exact List.getElem_mem a)) (d+1) _ _ UB UR UL (XB++(XB'++[(ps[q]'a).cs])) XL (by have:=depth_part (v:=v) (x:=ps[q]'a) (by rw [hpe];exact List.getElem_mem a);omega) (YA g (by rw [hpe];exact List.getElem_mem a)) O (by omega) z) ?_ | exact cl
 rintro r s' ⟨VB,VR,VL,XB2,b2,rfl,rfl,n1,n2,n3,ab,np2⟩
 rw [Ap];simp +decide only [go_sem,hx,c]
 (repeat' apply Ad)<;>first | refine p _ _ ?_ | exact cl
 clear p
 refine Di _ (by simp +decide only [go_sem]) (by simp +decide only [go_sem];rfl) (fun hb=>?_) (fun hb=>?_)
 ·simp only [Bool.not_eq_true'] at hb
  apply An;intro K13 n
  apply Ax 1 [6]
  rw [Ap];simp +decide only [go_sem,hx,c]
  (repeat' apply Ad)<;>first | refine n _ _ ?_ | exact cl
  clear n
  apply Df;simp +decide only [go_sem]
  exact ⟨VB,VR,VL,XB'++([(ps[q]'a).cs]++XB2),false,rfl,by simp,by omega,by omega,by omega,fun h=>(by cases h),fun _=>np2 hb⟩
 simp only [Bool.not_eq_false'] at hb
 apply Dj;simp only [go_sem]
 (repeat' apply Ad)<;>first | refine o _ _ ?_ | exact cl
 clear o
 apply Ax 1 [1,2,15,16,17]
 rw [Ap];simp +decide only [go_sem,hx,c]
 (repeat' apply Ad)<;>first | refine Z (ps.length-(q+1)) _ _ ?_ ⟨q+1,VB,VR,VL,XB'++([(ps[q]'a).cs]++XB2),?_,rfl,?_,?_,?_,?_,?_,?_⟩ | exact cl
 ·omega
 ·omega
 ·rw [Q];have:=ab hb;rwa [Nat.add_assoc (i+1)] at this
 ·omega
 ·omega
 ·omega
 ·simp
 ·simp
theorem Zb1 (w0:World) (items:Am) (k:Nat) (J:Nat→St→Prop) (Jx:St→Prop) (hY:Zda w0 items k J Jx):∀ (n:Nat) (v:Vl),v.size≤n→Zc2 w0 items k J Jx v
 | 0,v,h=>by have:=v.size_pos;omega
 | n+1,v,h=>Zcd w0 items k J Jx hY v fun x a=>Zb1 w0 items k J Jx hY n x (by omega)
def LV (v:Vl):List (List AV):=(F8 1 v).map ZdE
theorem RJ (w0:World) (v:Vl) (hv:v.depth<4611686018427387904∧v.wide=true) (l:Nat):ZjL Tryz.prog w0 229 [.box l 0] (LV v) (fun st=>st.boxes[l]? = some v.cs):=by
 intro k J Jx K G C y
 have U:Zda w0 (LV v) k J (fun s=>Jx s):=by
  intro i SB SR SL x XB XL z t
  have:=G i ⟨SB,SR,SL⟩ x ⟨XB,[],XL⟩ rfl z t
  simp only [St.ext,List.append_nil] at this
  intro M w f O F
  obtain ⟨Q,d,m,e,u,q⟩:=this M w f O F
  refine ⟨Q,d,m,e,u,fun n=>(q n).mono ?_⟩
  intro en Z D
  refine D.mono ?_
  rintro r s ⟨⟨TB,TR,TL⟩,rfl,⟨q1,q2,q3⟩,hp⟩
  rcases hp with ⟨rfl,hp⟩ | ⟨rfl,hp⟩
  ·exact ⟨TB,TR,TL,true,rfl,rfl,q1,q2,q3,fun _=>hp,fun h=>(by cases h)⟩
  ·exact ⟨TB,TR,TL,false,rfl,rfl,q1,q2,q3,fun h=>(by cases h),fun _=>hp⟩
 obtain ⟨a,E⟩:=K _ _ y
 obtain ⟨SB,SR,SL⟩:=C
 have N:l<SB.length:=(Aj.1 a).1
 have u:Et ⟨SB,SR,SL⟩ (.box l 0)=true:=by simp [Et,N]
 have q:BK ⟨SB,SR,SL⟩ (.box l 0)=v.cs:=by
  simp only at a
  simp [BK,List.getD,a]
 have c:=Zb1 w0 (LV v) k J Jx U v.size v (Nat.le_refl _) 1 0 1 SB SR SL [] [] (by omega) hv.2 y rfl (fun j x t=>by simp [LV,t])
 simp only [List.append_nil,List.nil_append,Nat.zero_add] at c
 refine FC (rs:=[]) Tryz.func229 rfl rfl Tryz.ntmps229 (Bl Tryz.func229 rfl (by decide)) (Nat.le_of_ble_eq_true rfl) ?_
 intro M0 W0 Y V H p hu
 simp only [AG]
 apply Ax 2 []
 rw [Ap];simp +decide only [go_sem,u,q]
 (repeat' apply Ad)<;>first | refine Xz _ c ?_ | exact cl
 rintro r s ⟨TB,TR,TL,XB',b,rfl,rfl,q1,q2,q3,o,g⟩
 rw [Ap];simp +decide only [go_sem]
 refine ⟨⟨TB,TR,TL⟩,⟨XB',[],[]⟩,rfl,by simp [St.ext],?_⟩
 cases b with
 | true=>exact .inl (by have:=o rfl;simpa [LV] using this)
 | false=>exact .inr (g rfl)
theorem RN (v:Vl):(LV v).length=(F8 1 v).length:=by simp [LV]
theorem WZ (v:Vl) (i:Nat) (x:List AV) (h:(LV v)[i]? = some x):∃ p,(F8 1 v)[i]? = some p∧x=[Ak p.1,.agg p.2.cs]∧i<(F8 1 v).length:=by
 simp only [LV,List.getElem?_map,Option.map_eq_some_iff] at h
 obtain ⟨p,a,rfl⟩:=h
 exact ⟨p,a,rfl,(Aj.1 a).1⟩
theorem XI (v:Vl) (x:List AV) (h:x∈LV v):x.length=2:=by
 obtain ⟨p,_,rfl⟩:=List.mem_map.1 h
 rfl
theorem VD (w0:World) (B:Am) (Rw:Aq) (L:Ar) (v:Vl) :
  ACalls Tryz.prog w0 146 [.agg v.cs] ⟨B,Rw,L⟩ fun r st=>r = .clo 229 [.box B.length 0]∧st=⟨B++[v.cs],Rw,L⟩:=by
 refine FC (rs:=[.tmp 2]) Tryz.func146 rfl rfl Tryz.ntmps146 (Bl Tryz.func146 rfl (by decide)) (Nat.le_of_ble_eq_true rfl) ?_
 intro M0 W0 f e d c g
 simp only [AG]
 apply An;intro K1 a
 apply Ax 1 [1]
 rw [Ap];simp +decide only [go_sem]
 (repeat' apply Ad)<;>first | refine a _ _ ?_ | exact cl
 clear a
 apply An;intro K2 b
 apply Ax 1 [2]
 rw [Ap];simp +decide only [go_sem]
 (repeat' apply Ad)<;>first | refine b _ _ ?_ | exact cl
 clear b
 apply Df;simp +decide only [go_sem]
 skip
def Xa:List AV:=[.val .nilFunc,.clo 215 [],.clo 217 [],.clo 218 [],.clo 220 [],.clo 223 [],.clo 224 [],.clo 225 [],.clo 226 [],.clo 227 [],.clo 228 []]
theorem ZfS (w0:World) (B:Am) (Rw:Aq) (L:Ar)  :
  ACalls Tryz.prog w0 145 [] ⟨B,Rw,L⟩ fun r st=>r = .agg Xa∧st=⟨B,Rw,L⟩:=by
 refine ACalls.finP (FC (rs:=[.cell 0 189]) Tryz.func145 rfl rfl Tryz.ntmps145 (Bl Tryz.func145 rfl (by decide)) (Nat.le_of_ble_eq_true rfl) ?_)
 intro M0 W0 f e d a g
 simp only [AG]
 apply An;intro K1 b
 apply Ax 1 [0]
 rw [Ap];simp +decide only [go_sem,TS,Qq,LQ,Dh,List.getElem?_cons_zero,List.getElem?_cons_succ,List.nil_append,List.cons_append]
 (repeat' apply Ad)<;>first | refine b _ _ ?_ | exact cl
 clear b
 apply An;intro K2 c
 apply Ax 1 [0]
 rw [Ap];simp +decide only [go_sem,TS,Qq,LQ,Dh,List.getElem?_cons_zero,List.getElem?_cons_succ,List.nil_append,List.cons_append]
 (repeat' apply Ad)<;>first | refine c _ _ ?_ | exact cl
 clear c
 apply Df;simp +decide only [go_sem]
 refine OE a pf pf pf (by simp +decide only [go_sem]) ⟨?_,rfl⟩
 rfl
structure Part where
 kind:Int
 index:Int
 name:ByteArray
structure Itm where
 v:Vl
 level:Int
structure Lim where
 name:ByteArray
 low:Int
 high:Int
 bounds:Bool
 scale:Bool
 text:Bool
 list:Bool
 fields:Bool
structure Sch where
 name:ByteArray
 version:Int
 type:Ty
def avL {α:Type} (f:α→AV) (l:List α):AV := .list (l.map f) .none
@[go_sem] theorem G2 {α:Type} (f:α→AV) (l:List α):avL f l = .list (l.map f) .none:=rfl
@[go_sem] theorem Zk0 {α:Type} (f:α→AV) (l:List α) (n:Nat):(l.map f).take n=(l.take n).map f:=List.map_take.symm
@[go_sem] theorem Zlg {α:Type} (f:α→AV) (l:List α) (n:Nat):(l.map f).drop n=(l.drop n).map f:=List.map_drop.symm
attribute [go_sem] List.length_map List.take_length
def avI (x:Int):AV:=Ak x
@[go_sem] theorem Hg (x:Int):avI x=Ak x:=rfl
@[go_sem] theorem ZkP (nb nr nl:Nat) (l:List (Int)):(∀ y∈l.map avI,Under nb nr nl y)↔True:=iff_true_intro fun y a=>by
 obtain ⟨x,_,rfl⟩:=List.mem_map.1 a
 exact .val _
def avB (x:Bool):AV := .val (.bool x)
@[go_sem] theorem G6 (x:Bool):avB x = .val (.bool x):=rfl
def V6 (x:ByteArray):AV := .val (.string x)
@[go_sem] theorem He (x:ByteArray):V6 x = .val (.string x):=rfl
@[go_sem] theorem Zl3 (l:List (ByteArray)):(∀ y∈l.map V6,y.cells.length=1∧CM y=true)↔True:=iff_true_intro fun y a=>by
 obtain ⟨x,_,rfl⟩:=List.mem_map.1 a
 simp +decide only [go_sem]
@[go_sem] theorem Zkz (nb nr nl:Nat) (l:List (ByteArray)):(∀ y∈l.map V6,Under nb nr nl y)↔True:=iff_true_intro fun y a=>by
 obtain ⟨x,_,rfl⟩:=List.mem_map.1 a
 exact .val _
def Bv (x:Vl):AV := .agg x.cs
@[go_sem] theorem Hz (x:Vl):Bv x = .agg x.cs:=rfl
@[go_sem] theorem ZkS (l:List (Vl)):(∀ y∈l.map Bv,y.cells.length=6)↔True:=iff_true_intro fun y a=>by
 obtain ⟨x,_,rfl⟩:=List.mem_map.1 a
 simp +decide only [go_sem]
@[go_sem] theorem Ze4 (nb nr nl:Nat) (l:List (Vl)):(∀ y∈l.map Bv,Under nb nr nl y)↔True:=iff_true_intro fun y a=>by
 obtain ⟨x,_,rfl⟩:=List.mem_map.1 a
 exact .agg (x.under _ _ _)
@[go_sem] theorem ZiD (l:List (Vl)):(l.map Bv).map AV.pub=l.map Bv:=by
 rw [List.map_map]
 refine List.map_congr_left fun x _=>?_
 simp +decide only [Function.comp,go_sem]
def Ny (x:Ty):AV := .agg x.cs
@[go_sem] theorem Ha (x:Ty):Ny x = .agg x.cs:=rfl
@[go_sem] theorem ZkH (l:List (Ty)):(∀ y∈l.map Ny,y.cells.length=7)↔True:=iff_true_intro fun y a=>by
 obtain ⟨x,_,rfl⟩:=List.mem_map.1 a
 simp +decide only [go_sem]
@[go_sem] theorem ZkM (nb nr nl:Nat) (l:List (Ty)):(∀ y∈l.map Ny,Under nb nr nl y)↔True:=iff_true_intro fun y a=>by
 obtain ⟨x,_,rfl⟩:=List.mem_map.1 a
 exact .agg (x.under _ _ _)
def BV (x:ByteArray × Vl):AV := .agg (.val (.string x.1)::x.2.cs)
@[go_sem] theorem GK (x:ByteArray × Vl):BV x = .agg (.val (.string x.1)::x.2.cs):=rfl
@[go_sem] theorem ZkI (l:List (ByteArray × Vl)):(∀ y∈l.map BV,y.cells.length=7)↔True:=iff_true_intro fun y a=>by
 obtain ⟨x,_,rfl⟩:=List.mem_map.1 a
 simp +decide only [go_sem]
@[go_sem] theorem ZlS (l:List (ByteArray × Vl)):(∀ y∈l.map BV,y.cells.length=7∧CM y=true)↔True:=iff_true_intro fun y a=>by
 obtain ⟨x,_,rfl⟩:=List.mem_map.1 a
 simp +decide only [go_sem]
@[go_sem] theorem ZeW (nb nr nl:Nat) (l:List (ByteArray × Vl)):(∀ y∈l.map BV,Under nb nr nl y)↔True:=iff_true_intro fun y a=>by
 obtain ⟨x,_,rfl⟩:=List.mem_map.1 a
 exact Qr nb nr nl [x] _ (by simp [Np,BV])
@[go_sem] theorem Ziy (l:List (ByteArray × Vl)):(l.map BV).map AV.pub=l.map BV:=by
 rw [List.map_map]
 refine List.map_congr_left fun x _=>?_
 simp +decide only [Function.comp,go_sem]
def ET (x:Int × ByteArray × Int × Ty × List Vl):AV := .agg (Ak x.1 :: .val (.string x.2.1)::Ak x.2.2.1::(x.2.2.2.1.cs++[.list (x.2.2.2.2.map Bv) .none]))
@[go_sem] theorem Fh (x:Int × ByteArray × Int × Ty × List Vl):ET x = .agg (Ak x.1 :: .val (.string x.2.1)::Ak x.2.2.1::(x.2.2.2.1.cs++[.list (x.2.2.2.2.map Bv) .none])):=rfl
@[go_sem] theorem ZjT (l:List (Int × ByteArray × Int × Ty × List Vl)):(∀ y∈l.map ET,y.cells.length=11)↔True:=iff_true_intro fun y a=>by
 obtain ⟨x,_,rfl⟩:=List.mem_map.1 a
 simp +decide only [go_sem]
@[go_sem] theorem Zki (nb nr nl:Nat) (l:List (Int × ByteArray × Int × Ty × List Vl)):(∀ y∈l.map ET,Under nb nr nl y)↔True:=iff_true_intro fun y a=>by
 obtain ⟨x,_,rfl⟩:=List.mem_map.1 a
 exact Pg nb nr nl [x] _ (by simp [M4,ET,JI];intros;rfl)
def Zk3 (x:Sch):AV := .agg (.val (.string x.name)::Ak x.version::x.type.cs)
@[go_sem] theorem Eg (x:Sch):Zk3 x = .agg (.val (.string x.name)::Ak x.version::x.type.cs):=rfl
def Zk6 (x:Itm):AV := .agg (x.v.cs++[Ak x.level])
@[go_sem] theorem Eh (x:Itm):Zk6 x = .agg (x.v.cs++[Ak x.level]):=rfl
def Zip (x:Lim):AV := .agg [.val (.string x.name),Ak x.low,Ak x.high,.val (.bool x.bounds),.val (.bool x.scale),.val (.bool x.text),.val (.bool x.list),.val (.bool x.fields)]
@[go_sem] theorem Fp (x:Lim):Zip x = .agg [.val (.string x.name),Ak x.low,Ak x.high,.val (.bool x.bounds),.val (.bool x.scale),.val (.bool x.text),.val (.bool x.list),.val (.bool x.fields)]:=rfl
def Nn (x:ByteArray × Int):AV := .agg [.val (.string x.1),Ak x.2]
@[go_sem] theorem Fq (x:ByteArray × Int):Nn x = .agg [.val (.string x.1),Ak x.2]:=rfl
@[go_sem] theorem Zkr (l:List (ByteArray × Int)):(∀ y∈l.map Nn,y.cells.length=2)↔True:=iff_true_intro fun y a=>by
 obtain ⟨x,_,rfl⟩:=List.mem_map.1 a
 simp +decide only [go_sem]
@[go_sem] theorem Zks (nb nr nl:Nat) (l:List (ByteArray × Int)):(∀ y∈l.map Nn,Under nb nr nl y)↔True:=iff_true_intro fun y a=>by
 obtain ⟨x,_,rfl⟩:=List.mem_map.1 a
 simp +decide only [go_sem];try intro z b;simp_all [Vl.under,Ty.under]
def ZlP (x:Ty × Ty):AV := .agg (x.1.cs++x.2.cs)
@[go_sem] theorem E9 (x:Ty × Ty):ZlP x = .agg (x.1.cs++x.2.cs):=rfl
def ZlZ (x:Part):AV := .agg [Ak x.kind,Ak x.index,.val (.string x.name)]
@[go_sem] theorem Fa (x:Part):ZlZ x = .agg [Ak x.kind,Ak x.index,.val (.string x.name)]:=rfl
theorem Zfo (x:Vl):(Bv x).pub=Bv x:=by
 have:=ZiD [x]
 simpa using this
theorem ZR (l:List (Vl)) (nb nr nl:Nat):∀ y∈l.flatMap fun x=>(Bv x).cells,Under nb nr nl y:=fun y a=>by
 obtain ⟨x,c,b⟩:=List.mem_flatMap.1 a
 have h:Under nb nr nl (Bv x):=(Ze4 nb nr nl [x]).2 trivial _ (List.mem_singleton.2 rfl)
 cases h with
 | agg h=>exact h y b
theorem X6 (x:ByteArray × Vl):(BV x).pub=BV x:=by
 have:=Ziy [x]
 simpa using this
theorem KN (l:List (ByteArray × Vl)) (nb nr nl:Nat):∀ y∈l.flatMap fun x=>(BV x).cells,Under nb nr nl y:=fun y a=>by
 obtain ⟨x,c,b⟩:=List.mem_flatMap.1 a
 have h:Under nb nr nl (BV x):=(ZeW nb nr nl [x]).2 trivial _ (List.mem_singleton.2 rfl)
 cases h with
 | agg h=>exact h y b
@[go_sem] theorem XH (l:List Vl):HY l=l.map Bv:=JI l
@[go_sem] theorem ZbE (l:List Ty):RH l=l.map Ny:=Y2 l
@[go_sem] theorem ZbV (l:List (ByteArray × Vl)):Np l=l.map BV:=Ro l
@[go_sem] theorem YI (l:List (Int × ByteArray × Int × Ty × List Vl)):M4 l=l.map ET:=by
 rw [WH]
 refine List.map_congr_left fun x _=>?_
 rw [XH];rfl
@[go_sem] theorem Zf3 (l:List ByteArray):(l.map fun x=>AV.val (.string x))=l.map V6:=rfl
@[go_sem] theorem Vl.under_mem (nb nr nl:Nat) (v:Vl):(∀ x∈v.cs,Under nb nr nl x)↔True:=iff_true_intro (v.under nb nr nl)
@[go_sem] theorem Ty.under_mem (nb nr nl:Nat) (v:Ty):(∀ x∈v.cs,Under nb nr nl x)↔True:=iff_true_intro (v.under nb nr nl)
@[go_sem] theorem Zjf {α:Type} (p:α→Prop) (l m:List α):(∀ x∈l++m,p x)↔(∀ x∈l,p x)∧∀ x∈m,p x:=List.forall_mem_append
theorem rt {α:Type} {x r:α} {F G C p:Prop} (h:some x=some r) (f:F) (hcalm:C) (hO:G) (k:some x=some r→F→C→G→p:=by
  intro h hs hcalm hO
  apply Df;simp +decide only [go_sem,Nat.reduceAdd,hs]
  have hgt:=Option.some.inj h;subst hgt
  first | refine E8 hcalm rfl hO.pre (by simp +decide only [go_sem,Nat.reduceAdd]) ⟨?_,?_⟩ | refine HD hcalm rfl hO.pre (by simp +decide only [go_sem,Nat.reduceAdd]) ⟨?_,?_⟩
  all_goals first | rfl | (simp +decide only [go_sem,Nat.reduceAdd,hs];done) | (simp +decide only [go_sem,Nat.reduceAdd,Vl.cs,Ty.cs,hs];done)):p:=k h f hcalm hO
theorem hv {p F:Prop} (f:F) (h:F→p:=by intro hs;first | rfl | (simp +decide only [go_sem,Nat.reduceAdd,hs];done) | (simp +decide only [go_sem,Nat.reduceAdd,Vl.cs,Ty.cs,hs];done)):p:=h f
theorem Ty.cs_eqs (t:Ty):t.cs=[Ak t.kind,Ak t.min,Ak t.max,Ak t.scale,.list (t.words.map V6) .none,.list (t.elem.map Ny) .none,.list (t.fields.map ET) .none]:=by
 cases t;rw [Ty.cs,ZbE,YI];rfl
theorem Vl.cs_eqs (v:Vl):v.cs=[Ak v.kind,Ak v.int,Ak v.scale,.val (.string v.text),.list (v.list.map Bv) .none,.list (v.fields.map BV) .none]:=by
 rw [v.cs_eq,XH,ZbV]
theorem Xc (w0:World) (B:Am) (Rw:Aq) (L:Ar) (hT:Lib.Utf8Tabs 2 3 w0) (s:ByteArray) (hs:s.size≤maxLen) :
  ACalls Tryz.prog w0 222 [.val (.string s)] ⟨B,Rw,L⟩ fun v s'=>v = .val (.bool (Lib.validD s.data.toList))∧s'=⟨B,Rw,L⟩:=Zek w0 _ hT s hs
theorem PO (w0:World) (B:Am) (Rw:Aq) (L:Ar) (a b:ByteArray) :
  ACalls Tryz.prog w0 126 [.val (.string a),.val (.string b)] ⟨B,Rw,L⟩ fun v s'=>v=Ak (E6 a b)∧s'=⟨B,Rw,L⟩:=ZbN w0 _ a b
theorem NZ (w0:World) (B:Am) (Rw:Aq) (L:Ar) (s:ByteArray) (n:Int) (h:0≤n∧n≤9223372036854775807∧s.size*n.toNat≤140737488355328) :
  ACalls Tryz.prog w0 194 [.val (.string s),Ak n] ⟨B,Rw,L⟩ fun v s'=>v = .val (.string ⟨(Lib.repeatL s.data.toList n.toNat).toArray⟩)∧s'=⟨B,Rw,L⟩:=by
 have:=Zcl w0 ⟨B,Rw,L⟩ s n.toNat (by omega) h.2.2
 rwa [Int.toNat_of_nonneg h.1] at this
attribute [go_sem] TS Qq LQ Nat.mul_one Nat.zero_add Nat.add_zero Option.isSome_some List.getElem?_cons_zero List.getElem?_cons_succ
abbrev ALp:Prop:=(∀ (α:Type) (l m:List α),List.append l m=l++m)∧(∀ (α:Type) (a:α) (l m:List α),(a::l)++m=a::(l++m))∧∀ (α:Type) (l:List α),[]++l=l
theorem al {F:Prop} (h:F):ALp∧F:=⟨⟨fun _ _ _=>rfl,fun _ _ _ _=>rfl,fun _ _=>rfl⟩,h⟩
theorem Vl.cs_mks (k i s:Int) (t:ByteArray) (l:List Vl) (f:List (ByteArray × Vl)):(Vl.mk k i s t l f).cs=[Ak k,Ak i,Ak s,.val (.string t),.list (l.map Bv) .none,.list (f.map BV) .none]:=Vl.cs_eqs _
theorem Ty.cs_mks (a b c d:Int) (w:List ByteArray) (e:List Ty) (f:List (Int × ByteArray × Int × Ty × List Vl)):(Ty.mk a b c d w e f).cs=[Ak a,Ak b,Ak c,Ak d,.list (w.map V6) .none,.list (e.map Ny) .none,.list (f.map ET) .none]:=Ty.cs_eqs _
theorem cm {F:Prop} (h:F):((∀ k i s t l f,(Vl.mk k i s t l f).cs=[Ak k,Ak i,Ak s,.val (.string t),.list (l.map Bv) .none,.list (f.map BV) .none])∧∀ a b c d w e f,(Ty.mk a b c d w e f).cs=[Ak a,Ak b,Ak c,Ak d,.list (w.map V6) .none,.list (e.map Ny) .none,.list (f.map ET) .none])∧F:=⟨⟨Vl.cs_mks,Ty.cs_mks⟩,h⟩
theorem Kr {p:Prop} (h:p:=by first | rfl | simp only [List.length_append,List.length_cons,List.length_nil,List.length_map,Nat.zero_add,Nat.add_zero]):p:=h
theorem Lj {p:Prop} (h:p:=by simp only [List.length_set]):p:=h
theorem kr {p:Prop} (h:p:=by kernel_rfl):p:=h
theorem px {p:Prop} (h:p:=by first | exact List.prefix_append _ _ | exact List.prefix_refl _):p:=h
theorem ap_ {p:Prop} (h:p:=by simp only [List.append_assoc,List.cons_append,List.nil_append]):p:=h
theorem nq {p:Prop} (h:p:=by first | assumption | omega | (simp only [List.length_set] at *; omega)):p:=h
theorem V5 {p:Prop} (h:p:=by first | rfl | simp only [List.flatMap_nil]):p:=h
theorem vu {p V:Prop} (v:V) (h:V→p:=by intro v;simp only [List.mem_cons,List.not_mem_nil,or_false,forall_eq_or_imp,forall_eq];exact v _ _ _ _):p:=h v
theorem Kq {p V:Prop} {Rw rows:List RowA} {l:List (Nat × Nat × Ev.Own)} {ho:Ev.Own} {v:List VE} (u:V) (hO:Owns Rw rows l ho v) (h:V→Rw.length≤rows.length→p:=by
  intro u hl
  (simp +decide only [go_sem,Nat.reduceAdd,JX])<;>(try (repeat' apply Ad))<;>first | omega | assumption | exact u _ _ _ (by omega) (by omega) (by omega)):p:=h u hO.len
theorem ln {p:Prop} {Rw rows Rw' rows':List RowA} {l l':List (Nat × Nat × Ev.Own)} {ho ho':Ev.Own} {v v':List VE} (h1:Owns Rw rows l ho v) (h2:Owns Rw' rows' l' ho' v') (h:Rw.length≤rows.length→Rw'.length≤rows'.length→p:=by intro _ _;first | exact Nat.le_refl _ | omega):p:=h h1.len h2.len
theorem dl {F p q:Prop} (m c1 c2:Nat) (L:List Nat) (f:F) {P:Program} (hm:P.follows .mixedOrders=true) {A K:Env→St→Prop} (hK:∀ e s,A e s→K e s) (k:q) (h:Tg (m,c1,c2,L)→F→P.follows .mixedOrders=true→(∀ e s,A e s→K e s)→q→p:=by
  intro tt hs hm hK hq
  refine QW tt hm (by kernel_rfl) ?_
  rw [Ap];simp +decide only [go_sem,Nat.reduceAdd,hs]
  (repeat' with_reducible apply Ad)<;>first | (rw [Ap];simp +decide only [go_sem,Nat.reduceAdd,hs]) | (clear hq;exact cl)
  first | (refine hK _ _ ?_;exact hq) | ((repeat' apply Ad)<;>first | (refine hK _ _ ?_;exact hq) | (clear hq;exact cl))):p:=h tg f hm hK k
theorem dk {F p q:Prop} (m c1 c2:Nat) (L:List Nat) (f:F) {P:Program} (hm:P.follows .mixedOrders=true) (k:q) (h:Tg (m,c1,c2,L)→F→P.follows .mixedOrders=true→q→p:=by
  intro tt hs hm hq
  refine QW tt hm (by kernel_rfl) ?_
  rw [Ap];simp +decide only [go_sem,Nat.reduceAdd,hs]
  first | (refine HG ?_;exact hq) | ((repeat' apply Ad)<;>first | (refine HG ?_;exact hq) | (clear hq;exact cl))):p:=h tg f hm k
theorem dj {F p q:Prop} (m c1 c2:Nat) (L:List Nat) (f:F) {P:Program} (hm:P.follows .mixedOrders=true) (k:q) (h:Tg (m,c1,c2,L)→F→P.follows .mixedOrders=true→q→p:=by
  intro tt hs hm hq
  refine QW tt hm (by kernel_rfl) ?_
  rw [Ap];simp +decide only [go_sem,Nat.reduceAdd,hs]
  (repeat' with_reducible apply Ad)<;>first | (rw [Ap];simp +decide only [go_sem,Nat.reduceAdd,hs]) | (clear hq;exact cl)
  first | (refine HG ?_;exact hq) | ((repeat' apply Ad)<;>first | (refine HG ?_;exact hq) | (clear hq;exact cl))):p:=h tg f hm k
theorem dx {F p q:Prop} (f:F) (k:q) (h:F→q→p:=by
  intro hs hq
  rw [Ap];simp +decide only [go_sem,Nat.reduceAdd,hs]
  (repeat' with_reducible apply Ad)<;>first | (rw [Ap];simp +decide only [go_sem,Nat.reduceAdd,hs]) | (clear hq;exact cl)
  first | (refine HG ?_;exact hq) | ((repeat' apply Ad)<;>first | (refine HG ?_;exact hq) | (clear hq;exact cl))):p:=h f k
theorem dn {F p q:Prop} (f:F) {A K:Env→St→Prop} (hK:∀ e s,A e s→K e s) (k:q) (h:F→(∀ e s,A e s→K e s)→q→p:=by
  intro hs hK hq
  rw [Ap];simp +decide only [go_sem,Nat.reduceAdd,hs]
  (repeat' with_reducible apply Ad)<;>first | (rw [Ap];simp +decide only [go_sem,Nat.reduceAdd,hs]) | (clear hq;exact cl)
  first | (refine hK _ _ ?_;exact hq) | ((repeat' apply Ad)<;>first | (refine hK _ _ ?_;exact hq) | (clear hq;exact cl))):p:=h f hK k
theorem rT {α:Type} {x r:α} {F G C p:Prop} (h:x=r) (f:F) (hcalm:C) (hO:G) (k:x=r→F→C→G→p:=by
  intro h hs hcalm hO
  apply Df;simp +decide only [go_sem,Nat.reduceAdd,hs]
  subst h
  first | refine E8 hcalm rfl hO.pre (by simp +decide only [go_sem,Nat.reduceAdd]) ⟨?_,rfl⟩ | refine HD hcalm rfl hO.pre (by simp +decide only [go_sem,Nat.reduceAdd]) ⟨?_,rfl⟩
  first | rfl | (simp +decide only [go_sem,Nat.reduceAdd,hs];done) | (simp +decide only [go_sem,Nat.reduceAdd,Vl.cs,Ty.cs,hs];done)):p:=k h f hcalm hO
end Go.Proofs.YtmcnjijeocmkgaaGreatDoor
namespace Go.Ev
open Go Go.RowKit Go.Shelf
section
variable {P:Program} {w0:World} {st:St}
theorem Zbr {M:Mem} {w w':World} {e:TypeId} {sz:Nat} {v':Value} {n:Nat} {us:Nat→Value} {xs:List AV} (hst:RelSt w0 M st w) (hb:Below w.heap.size w w') (ho:w'.ownsRow w.heap.size e sz v' n (flat us n)) (hn:xs.length=n)
  (hus:∀ i,i<n→(us i).cells.size=sz) (hR:∀ i (hi:i<xs.length),R w0 M w (us i) xs[i]):∃ M',Ext w0 M w M' w'∧RelSt w0 M' st w'∧R w0 M' w' v' (.list xs .none):=by
 subst hn
 obtain ⟨k,f⟩:=ho
 rcases f with ⟨rfl,h0⟩ | ⟨g,cap,cur,rfl,hg,hcur,hc1,hc2,hc3,hc4⟩
 ·obtain ⟨c,b⟩:=hst.later hb w.heap.size 0 (Nat.le_refl _) (.inr rfl)
  have:xs=[]:=List.length_eq_zero_iff.1 h0
  subst this
  exact ⟨_,b,c,.nil (fun id=>by simp)⟩
 ·obtain ⟨c,b⟩:=hst.later hb g (xs.length*sz) hg (.inl (Array.getElem?_eq_some_iff.1 hcur).1)
  refine ⟨_,b,c,.list sz us hc1 hc2 (fun i hi=>⟨hus i hi,fun j d=>?_⟩) (fun i hi=>(hR i hi).mono b) trivial⟩
  have a:i*sz+j<xs.length*sz:=by
   have:(i+1)*sz≤xs.length*sz:=Nat.mul_le_mul_right _ hi
   rw [Nat.succ_mul] at this;omega
  refine ⟨.inr (by simp only [Mem.newTop,if_true,Nat.zero_add];exact a),?_⟩
  have h:=Lr hus i hi j d
  rw [←h,←hc4,List.getElem?_take_of_lt a,Array.getElem?_toList]
  simp [World.cell?,hcur]
theorem ZcN {ρ:Ren} (L:Go.Proofs.SlLaysE0.n41 P ρ) (i0:TypeInfo) (z:Value) (size bytes:Nat) (hi:P.info? (ρ.t 23)=some i0) (hz0:i0.zero=some z) (hz1:i0.size=size) (hz2:i0.bytes=bytes) (hzs:z.cells.size=size) (hsz:0<size)
  (z23:∀ w,(Go.sizeOf (ρ.t 23)).run P w = .ok size w) (a:Addr) (c:Nat) (w:World) :
  Calls P (ρ.f 41) #[.slice (some a) 0 c] w fun e w'=>∃ v',e = .returned v'∧w'.ownsRow w.heap.size (ρ.t 23) size v' 0 []∧Below w.heap.size w w':=by
 have h:=L.mixed;have C:=L.t4;have a4:=L.a4;have D:=L.z4;have y:=L.v4;have g:=L.t22;have s:=L.a22;have r:=L.z22;have v:=L.v22
 have q:∀ (w:World) (a:Option Addr) (n c l i:Nat),(binOp .eql (ρ.t 22) (.slice a n c) (.slice none l i)).run P w = .ok (.bool a.isNone) w:=fun w a n c l i=>Lib.run_eql_slice_nil w _ _ a n c l i L.t22
 have p:∀ w,Sem.run P (underlying (ρ.t 22)) w = .ok (TypeDesc.slice (ρ.t 23)) w:=run_underlying g
 obtain ⟨_,_,FG⟩:=L.f41
 go_enter FG,Go.Proofs.SlBodyN.n41_ntmps ρ
 go_wp2_with (at_builtin;refine wpList_append_own _ rfl _ _ (ρ.t 22) rfl w.heap.size (ρ.t 23) i0 z size bytes g hi hz0 hz1 hz2 hzs hsz _ _ _ rfl (World.ownsRow_made w #[] 0 (Nat.le_refl _) (Nat.zero_le _) (by simp)) a 0 c [] rfl (by simp) (by intro j u o;simp at o) (by intro u hu;cases hu) (by unfold maxLen;omega) (by omega) (by simp) ?_)
 intro v' E d b m
 go_wp2
 go_ret
 exact ⟨v',rfl,by simpa using d,((Below.refl _ w).alloc (Nat.le_refl _) _).grown b (by simp) (by intro k x;simp [Value.ownBlock] at x;omega)⟩
theorem ZcC {ρ:Ren} (L:Go.Proofs.SlLaysE0.n41 P ρ) (hen:MU P (ρ.f 41)) (i0:TypeInfo) (z:Value) (size bytes:Nat) (hi:P.info? (ρ.t 23)=some i0) (hz0:i0.zero=some z) (hz1:i0.size=size) (hz2:i0.bytes=bytes) (hzs:z.cells.size=size) (hsz:0<size)
  (z23:∀ w,(Go.sizeOf (ρ.t 23)).run P w = .ok size w) {xs:List AV} {o:Own} (hx:∀ y∈xs,y.cells.length=size) (h1:∀ y∈xs,CM y=true) (hbig:xs.length*bytes≤140737488355328) :
  ACalls P w0 (ρ.f 41) [.list xs o] st fun r s=>r = .list xs .none∧s=st:=by
 refine ⟨hen,fun M w q l h=>?_⟩
 obtain ⟨v,rfl⟩:∃ v,q = #[v]:=by
  have:=h.1
  simp only [List.length_cons,List.length_nil] at this
  exact Array.size_eq_one_iff.1 this
 have hv:R w0 M w v (.list xs o):=h.2 0 (by simp) (by simp)
 cases hv with
 | nil ho =>
  refine (Go.Proofs.AnyE.slices_Clone_nil L 0 0 w).mono ?_
  rintro en N ⟨rfl,rfl⟩
  exact ⟨_,M,_,st,rfl,⟨rfl,rfl⟩,.refl _ _ _,l,.nil (fun id=>by simp)⟩
 | @emp ad _ ho =>
  refine (ZcN L i0 z size bytes hi hz0 hz1 hz2 hzs hsz z23 ad 0 w).mono ?_
  rintro en N ⟨K,rfl,c,a⟩
  obtain ⟨M',J,E,D⟩:=Zbr (xs:=[]) (us:=fun _=>undef) l a c rfl (fun i hi=>absurd hi (by omega)) (fun i hi=>absurd hi (by simp))
  exact ⟨K,M',_,st,rfl,⟨rfl,rfl⟩,J,E,D⟩
 | @list b off cap _ _ sz us hc hm hcell hu ho =>
  have d:∀ i,i<xs.length→(us i).cells.size=size:=fun i hi=>by
   rw [((hu i hi).cells).1];exact hx _ (List.getElem_mem _)
  have g:∀ i,i<xs.length→∀ j,j<size→w.cell? ⟨b,off+i*size+j,none⟩=(us i).cells[j]? := fun i hi j x=>by
   have e:sz=size:=((hcell i hi).1).symm.trans (d i hi)
   subst e
   exact ((hcell i hi).2 j x).2
  refine (Go.Proofs.AnyE.slices_Clone L i0 z size bytes hi hz0 hz1 hz2 hzs hsz z23 b off xs.length cap (flat us xs.length) w (Bg d) (Nat.le_trans hc hm) hbig (fun j u x=>?_) (fun u F=>?_)).mono ?_
  ·have:=HL d hsz g j u x
   rwa [F9] at this
  ·obtain ⟨i,G,C⟩:=List.mem_flatMap.1 F
   have m:i<xs.length:=by simpa using G
   obtain ⟨k,O,rfl⟩:=List.mem_iff_getElem.1 C
   have p:=(hu i m).cells
   have n:k<(us i).cells.size:=by simpa using O
   have:=p.2 k n (by rw [←p.1];exact n)
   rw [Array.getElem_toList]
   refine this.oneCell ((hu i m).cellsOne (fun vs H=>?_) _ (List.getElem_mem _))
   have:=h1 _ (List.getElem_mem m)
   rw [H] at this;cases this
  ·rintro en N ⟨K,rfl,c,_,a⟩
   obtain ⟨M',J,E,D⟩:=Zbr l a c rfl d hu
   exact ⟨K,M',_,st,rfl,⟨rfl,rfl⟩,J,E,D⟩
def Zdj (P:Program) (t:TypeId) (size bytes:Nat):Bool :=
 match P.info? t with
 | some i=>(i.size == size)&&(i.bytes == bytes)&&(match i.zero with | some z=>z.cells.size == size | none=>false)
 | none=>false
theorem XX {t:TypeId} {size bytes:Nat} (h:Zdj P t size bytes=true):∃ i0 z,P.info? t=some i0∧i0.zero=some z∧i0.size=size∧i0.bytes=bytes∧z.cells.size=size:=by
 unfold Zdj at h
 cases hi:P.info? t with
 | none=>simp [hi] at h
 | some i =>
  simp only [hi,Bool.and_eq_true,beq_iff_eq] at h
  cases hz:i.zero with
  | none=>simp [hz] at h
  | some z =>
   simp only [hz,beq_iff_eq] at h
   exact ⟨i,z,rfl,hz,h.1.1,h.1.2,h.2⟩
theorem ZaM {ρ:Ren} (L:Go.Proofs.SlLaysE0.n41 P ρ) (hen:MU P (ρ.f 41)) (size bytes:Nat) (hi:Zdj P (ρ.t 23) size bytes=true) (hsz:0<size) (z23:∀ w,(Go.sizeOf (ρ.t 23)).run P w = .ok size w) {xs:List AV} {o:Own}
  (hx:∀ y∈xs,y.cells.length=size∧CM y=true) (hbig:xs.length*bytes≤140737488355328):ACalls P w0 (ρ.f 41) [.list xs o] st fun r s=>r = .list xs .none∧s=st:=by
 obtain ⟨b,z,a1,a2,a3,a4,a5⟩:=XX hi
 exact ZcC L hen b z size bytes a1 a2 a3 a4 a5 hsz z23 (fun y a=>(hx y a).1) (fun y a=>(hx y a).2) hbig
end
theorem Owns.len1 {Rw rows:List RowA} {o ho:Own} {sz n m:Nat} (h:Owns Rw rows [(sz,n,o)] ho) (e:n=m):Owns Rw rows [(sz,m,o)] ho:=e▸h
theorem DL {B:List (List AV)} {l i:Nat} {cs:List AV} (h:B[l]? = some cs) (hne:i≠l) :
  (∀ X R L o c,Et ⟨B.set i c++X,R,L⟩ (.box l o)=true)∧(∀ R L o c,Et ⟨B.set i c,R,L⟩ (.box l o)=true)∧(∀ X R L o c,BK ⟨B.set i c++X,R,L⟩ (.box l o)=cs)∧(∀ R L o c,BK ⟨B.set i c,R,L⟩ (.box l o)=cs) ∧
  (∀ X c,(B.set i c++X)[l]? = some cs)∧(∀ c,(B.set i c)[l]? = some cs)∧(∀ X c,(B.set i c++X).getD l []=cs)∧(∀ c,(B.set i c).getD l []=cs):=by
 have a:∀ c,(B.set i c)[l]? = some cs:=fun c=>by rw [List.getElem?_set_ne hne];exact h
 refine ⟨fun X R L o c=>(Aw (a c)).1 X R L o,fun R L o c=>(Aw (a c)).2.1 R L o,fun X R L o c=>(Aw (a c)).2.2.1 X R L o,fun R L o c=>(Aw (a c)).2.2.2.1 R L o,fun X c=>(Aw (a c)).2.2.2.2.1 X,a,
  fun X c=>(Aw (a c)).2.2.2.2.2.2.1 X,fun c=>(Aw (a c)).2.2.2.2.2.2.2.1⟩
theorem OM {P:Program} {w0:World} {n:Nat} {M0:Mem} {W0:World} {ro:Option Nat} {Q:AQ} {e:Env} {st:St} (hm:P.follows .mixedOrders=true) (ef:List Nat) (L:List Nat) {id:Nat} {l:List Oper} (hB:XF l ef=true) (F:St→Prop) (k nb:Nat) {e1:Env} (hnb:st.boxes.length=nb)
  (hF:∀ s,F s→∃ c,X9 P w0 n true l (fun e' s'=>e'=e1∧s'=s) c (EI ef 0 l) e s) (hG:Good P w0 n l ef F (fun ev s=>∃ e2 s2,Conv w0 n nb ev s e2 s2∧Q .normal (EY L e2) s2) k [] e1 st):F3 P w0 n M0 W0 ro (.region id l.toArray true) Q e st:=by
 intro m M a w hr
 obtain ⟨d1,d2⟩:=hr.rel.st.drew
 refine wpIn_region_any hm (Zp (e:=e) (e1:=e1) (M1:=M) (w1:=w) (ds:=a.defers) hB hF (fun ev s q g o d b v hd=>?_) _ _ a _ M k [] e1 st ?_ hG ?_)
 ·obtain ⟨e2,s2,d,r⟩:=d
  obtain ⟨M2,u,p⟩:=d q g o b
  have f:=u M w (hr.rel.st.N.trans hnb) v
  refine ⟨M2,_,_,⟨p.sub (Dx L _),hr.ext.trans f,?_⟩,r⟩
  rw [hd]
  exact hr.marks.later f hr.rel.st
 ·simp
 ·have hnl:∀ j,(Array.replicate l.toArray.size false).getD j false=false:=fun j=>by
   by_cases c:j<l.length
   ·simp [Array.getD_eq_getD_getElem?,c]
   ·simp [Array.getD_eq_getD_getElem?,c]
  exact ⟨by simp,fun j _ _ hl=>(by rw [hnl] at hl;cases hl),fun i _=>(by rw [hnl];simp),fun _ h=>(nomatch h),d1,hr.rel.size,rfl,d2,fun _ _=>rfl,fun _ _ ⟨_,h,_⟩=>(nomatch h),
   fun _ _ _ ⟨i,_,_,_,_,h⟩=>(by rw [hnl] at h;cases h),fun t x _ hs=>(hr.rel.env t x hs).mono d2⟩
theorem UU {P:Program} {w0:World} {f:FuncId} {args args' cs:List AV} {st s':St} {v:AV} (h:ACalls P w0 f args' st fun r s=>r=v∧s=s') (he:(args++cs).map AV.pubA=args'):Qb P w0 (.clo f cs) args st fun r t=>r=v∧t=s':=h.pub he
end Go.Ev
namespace Go.Proofs.YtmcnjijeocmkgaaGreatDoor
open Go Go.RowKit Go.Ev
def LY:Go.Shelf.Ren:=⟨fun | 41=>356 | n=>n,fun | 22=>22 | 23=>9 | 4=>4 | n=>n,fun | n=>n⟩
theorem Qx:Go.Proofs.SlLaysE0.n41 Tryz.prog LY:={
 mixed:=by kernel_rfl
 f41:=⟨Tryz.f356.name,by decide,Tryz.func356.trans (congrArg some (by kernel_rfl))⟩
 t4:=Tryz.underlying4
 a4:=Tryz.isAgg4
 z4:=Tryz.sizeOf4
 v4:=Tryz.zeroValue4
 t22:=Tryz.underlying22
 a22:=Tryz.isAgg22
 z22:=Tryz.sizeOf22
 v22:=Tryz.zeroValue22 }
theorem R7 (w0:World) (B:Am) (Rw:Aq) (L:Ar) (l:List ByteArray) (h:l.length*16≤140737488355328) :
  ACalls Tryz.prog w0 356 [.list (l.map V6) .none] ⟨B,Rw,L⟩ fun r s=>r = .list (l.map V6) .none∧s=⟨B,Rw,L⟩ :=
 ZaM (ρ:=LY) Qx (Bl Tryz.func356 rfl (by decide)) 1 16 (by kernel_rfl) (by decide) Tryz.sizeOf9 (by simp +decide only [go_sem]) (by rw [List.length_map];exact h)
end Go.Proofs.YtmcnjijeocmkgaaGreatDoor
namespace Go.Ev
open Go Go.RowKit Go.Shelf Go.Sort Go.Proofs
theorem Uf {α β:Type} {f:α→List β} {sz:Nat}:∀ {xs:List α},(∀ x∈xs,(f x).length=sz)→(xs.flatMap f).length=xs.length*sz
 | [],_=>by simp
 | x::xs,h=>by
  rw [List.flatMap_cons,List.length_append,h x (List.mem_cons_self ..),Uf (fun y a=>h y (List.mem_cons_of_mem _ a)),List.length_cons,Nat.succ_mul,Nat.add_comm]
theorem VX {α β:Type} {f:α→List β} {sz:Nat}:∀ {xs:List α},(∀ x∈xs,(f x).length=sz)→∀ (i:Nat) (hi:i<xs.length) (j:Nat),j<sz→(xs.flatMap f)[i*sz+j]? = (f xs[i])[j]?
 | [],_,i,hi,_,_=>absurd hi (by simp)
 | x::xs,h,0,hi,j,hj=>by
  rw [List.flatMap_cons,Nat.zero_mul,Nat.zero_add,List.getElem?_append_left (by rw [h x (List.mem_cons_self ..)];exact hj)]
  rfl
 | x::xs,h,i+1,hi,j,hj=>by
  have b:=h x (List.mem_cons_self ..)
  rw [List.flatMap_cons,Nat.succ_mul,List.getElem?_append_right (by omega),b,show i*sz+sz+j-sz=i*sz+j by omega]
  exact VX (fun y a=>h y (List.mem_cons_of_mem _ a)) i (by simpa using hi) j hj
abbrev YV:List UInt8→List UInt8→Int:=Lib.compareBytes
theorem Wa:∀ a,YV a a=0
 | []=>rfl
 | x::a=>by simp only [YV,Lib.compareBytes,UInt8.lt_irrefl,if_false];exact Wa a
theorem TO:∀ a b,YV b a = - YV a b
 | [],[]=>rfl
 | [],_::_=>rfl
 | _::_,[]=>rfl
 | x::a,y::b=>by
  have ih:=TO a b
  simp only [YV,Lib.compareBytes] at *
  by_cases h1:x<y
  ·have c:¬ y<x:=fun h=>by rw [UInt8.lt_iff_toNat_lt] at *; omega
   simp [h1,c]
  ·by_cases c:y<x
   ·simp [h1,c]
   ·simp only [h1,c,if_false];exact ih
theorem Tt:∀ a b c,YV a b≤0→YV b c≤0→YV a c≤0∧(YV a b<0∨YV b c<0→YV a c<0)
 | [],[],c,_,h=>⟨h,fun q=>q.elim (fun q=>absurd q (by decide)) id⟩
 | [],_::_,[],_,h=>absurd (show (1:Int)≤0 from h) (by decide)
 | [],_::_,_::_,_,_=>⟨show (-1:Int)≤0 by decide,fun _=>show (-1:Int)<0 by decide⟩
 | _::_,[],c,h,_=>absurd (show (1:Int)≤0 from h) (by decide)
 | _::_,_::_,[],_,h=>absurd (show (1:Int)≤0 from h) (by decide)
 | x::a,y::b,z::c,h1,h2=>by
  have ih:=Tt a b c
  simp only [YV,Lib.compareBytes,UInt8.lt_iff_toNat_lt] at *
  by_cases p1:x.toNat<y.toNat
  ·by_cases p2:y.toNat<z.toNat
   ·have:x.toNat<z.toNat:=by omega
    simp [this]
   ·by_cases p3:z.toNat<y.toNat
    ·simp [p2,p3] at h2
    ·have:x.toNat<z.toNat:=by omega
     simp [this]
  ·by_cases p4:y.toNat<x.toNat
   ·simp [p1,p4] at h1
   ·simp only [p1,p4,if_false] at h1
    by_cases p2:y.toNat<z.toNat
    ·have:x.toNat<z.toNat:=by omega
     simp [this]
    ·by_cases p3:z.toNat<y.toNat
     ·simp [p2,p3] at h2
     ·simp only [p2,p3,if_false] at h2
      have e:¬ x.toNat<z.toNat:=by omega
      have d:¬ z.toNat<x.toNat:=by omega
      simp only [p1,p4,p2,p3,e,d,if_false]
      exact ih h1 h2
theorem Zg0 {α:Type} (nm:α→ByteArray):SWO (ltOf fun x y:α=>Lib.compareBytes (nm x).data.toList (nm y).data.toList) where
 irrefl x:=by simp only [ltOf,decide_eq_false_iff_not];have:=Wa (nm x).data.toList;simp only [YV] at this;omega
 trans x y z h1 h2:=by
  simp only [ltOf,decide_eq_true_eq] at *
  exact (Tt (nm x).data.toList (nm y).data.toList (nm z).data.toList (by simp only [YV];omega) (by simp only [YV];omega)).2 (.inl h1)
 ntrans x y z h1 h2:=by
  simp only [ltOf,decide_eq_false_iff_not] at *
  have a:=TO (nm x).data.toList (nm y).data.toList
  have b:=TO (nm y).data.toList (nm z).data.toList
  have c:=TO (nm x).data.toList (nm z).data.toList
  have:=(Tt (nm z).data.toList (nm y).data.toList (nm x).data.toList (by simp only [YV] at *; omega) (by simp only [YV] at *; omega)).1
  simp only [YV] at *
  omega
def J6 (nm:Nat→ByteArray) (n:Nat):List Nat:=(pdq (ltOf fun i j:Nat=>Lib.compareBytes (nm i).data.toList (nm j).data.toList) (Array.range n) 0 n (Lib.bitLen n) true true).toList
theorem PN (nm:Nat→ByteArray) (n:Nat):(J6 nm n).Perm (List.range n)∧∀ i j,i<j→j<n→¬ Lib.compareBytes (nm ((J6 nm n)[j]!)).data.toList (nm ((J6 nm n)[i]!)).data.toList<0:=by
 have h:=pdq_sorts (ltOf fun i j:Nat=>Lib.compareBytes (nm i).data.toList (nm j).data.toList) (Zg0 nm) (Array.range n) 0 n (Lib.bitLen n) true true (Nat.zero_le _) (by simp) (Or.inl rfl)
 obtain ⟨⟨l,p,c⟩,m⟩:=h
 have a:(pdq (ltOf fun i j:Nat=>Lib.compareBytes (nm i).data.toList (nm j).data.toList) (Array.range n) 0 n (Lib.bitLen n) true true).size=n:=by simpa using l
 refine ⟨?_,fun i j o b=>?_⟩
 ·have f:((pdq (ltOf fun i j:Nat=>Lib.compareBytes (nm i).data.toList (nm j).data.toList) (Array.range n) 0 n (Lib.bitLen n) true true).extract 0 n).toList=J6 nm n:=by
   unfold J6
   rw [Array.toList_extract]
   simp only [List.extract,Nat.sub_zero,List.drop_zero]
   exact List.take_of_length_le (by rw [Array.length_toList,a];exact Nat.le_refl _)
  rw [f] at c
  have e:((Array.range n).extract 0 n).toList=List.range n:=by simp [List.extract,Array.toList_range]
  rwa [e] at c
 ·have:=m i j (Nat.zero_le _) o b
  unfold ltOf at this
  have:=of_decide_eq_false this
  unfold J6
  have g:∀ k,k<n→((pdq (ltOf fun i j:Nat=>Lib.compareBytes (nm i).data.toList (nm j).data.toList) (Array.range n) 0 n (Lib.bitLen n) true true).toList)[k]! = (pdq (ltOf fun i j:Nat=>Lib.compareBytes (nm i).data.toList (nm j).data.toList) (Array.range n) 0 n (Lib.bitLen n) true true)[k]! := fun k d=>by
   rw [getElem!_pos _ k (by rw [Array.length_toList,a];exact d),getElem!_pos _ k (by rw [a];exact d),Array.getElem_toList]
  rw [g i (by omega),g j b]
  exact this
theorem IZ (nm:Nat→ByteArray) (n:Nat):(J6 nm n).length=n:=by simpa using (PN nm n).1.length_eq
theorem Zfj (nm:Nat→ByteArray) (n:Nat):∀ i∈J6 nm n,i<n:=fun i a=>by simpa using (PN nm n).1.mem_iff.1 a
def Ov {α:Type} (nm:α→ByteArray) (d:α) (xs:List α):List α:=(J6 (fun i=>nm (xs.getD i d)) xs.length).map fun i=>xs.getD i d
section
variable {P:Program} {w0:World} {st:St} {M:Mem} {w:World}
theorem RelSt.setVec (h:RelSt w0 M st w) {id ver sz:Nat} {cs cs':List AV} {w':World} (hid:st.rows[id]? = some (.vec ver sz cs)) (hb:Below w0.heap.size w w') (hoth:∀ b,b<w.heap.size→b≠M.blk id→w'.heap[b]? = w.heap[b]?)
  {c':Array Value} {ty:TypeId} (hc:w'.heap[M.blk id]? = some (.cells c' ty (0,0))) (hsz:c'.size=M.cap id*sz) (hle:cs'.length≤c'.size) (hone:∀ x∈cs',x.one=true) (hR:∀ i (h1:i<c'.size) (h2:i<cs'.length),R w0 M w c'[i] cs'[i]) :
  Ext w0 M w M w'∧RelSt w0 M { st with rows:=st.rows.set id (.vec ver sz cs') } w':=by
 have a:id<st.rows.length:=(Aj.1 hid).1
 have f:id<M.NR:=by rw [h.NR];exact a
 obtain ⟨D,E,K,z,u,G,H,c,U,f8,V,F,O,C⟩:=h.row id _ hid
 have g:KeepsObj w w':=fun b o h1 h2=>by
  have d:=(Array.getElem?_eq_some_iff.1 h1).1
  by_cases q:b=M.blk id
  ·subst q;rw [f8] at h1;cases h1;cases h2
  ·exact (hoth b d q).trans h1
 have j:Ext w0 M w M w' :=
  ⟨Nat.le_refl _,fun _ _=>rfl,Nat.le_refl _,fun _ _=>⟨Nat.le_refl _,fun _=>⟨rfl,rfl,rfl⟩⟩,fun b J v hi hv=>by
   have d:=World.block_lt_of_cell? w _ hv
   refine ⟨?_,hi⟩
   have q:b≠M.blk id:=by
    rintro rfl
    rcases hi with hi | hi
    ·omega
    ·rw [z] at hi;omega
   unfold World.cell? at hv ⊢
   simp only [hoth b d q] at hv ⊢
   exact hv,hb.size,Nat.le_refl _,fun _ _=>rfl,fun _ h1 h2=>absurd h2 (Nat.not_lt.2 h1),fun b o h1 h2 _=>g b o h1 h2⟩
 refine ⟨j,h.below.trans hb,h.N,by simp [h.NR],fun b r=>h.top b (Nat.le_trans hb.size r),h.inj,fun l m y=>?_,fun i x hi=>?_,h.rowinj,h.loop.mono j rfl g⟩
 ·obtain ⟨a1,a2,Q,t,a3,a4,a5,a6⟩:=h.box l m y
  have n:l<M.N:=by rw [h.N];exact (Aj.1 y).1
  exact ⟨a1,a2,Q,t,by rw [hoth _ (Array.getElem?_eq_some_iff.1 a3).1 (u l n)];exact a3,a4,a5,fun i h1 h2=>(a6 i h1 h2).mono j⟩
 ·by_cases q:i=id
  ·subst q
   rw [List.getElem?_set_self a] at hi
   cases hi
   exact ⟨D,E,K,z,u,G,H,c',ty,hc,hsz,hle,hone,fun i h1 h2=>(hR i h1 h2).mono j⟩
  ·rw [List.getElem?_set_ne (Ne.symm q)] at hi
   have k:i<M.NR:=by rw [h.NR];exact (Aj.1 hi).1
   have p:=h.row i x hi
   have s:M.blk i≠M.blk id:=fun e=>q (h.rowinj i id k f e)
   exact p.keep j rfl rfl rfl rfl rfl p.ne (hoth _ p.lt s)
theorem Zen {ρ:Ren} (L:SlLaysF0.n6 P ρ) (hen:MU P (ρ.f 6)) (k:Nat) (aE:∀ w,(isAgg (ρ.t 24)).run P w = .ok true w) (zE:∀ w,(Go.sizeOf (ρ.t 24)).run P w = .ok (k+1) w) (g:FuncId) (hg:MU P g)
  (hcmp:∀ (s s':ByteArray) (r r':List Value) (W:World),r.length=k→r'.length=k→(∀ v∈r,v.oneCell'=true)→(∀ v∈r',v.oneCell'=true) →
   Calls P g #[.agg (.string s::r).toArray,.agg (.string s'::r').toArray] W fun e w'=>e = .returned (.int .i64 (Lib.compareBytes s.data.toList s'.data.toList))∧∃ q os',w'=grow (W.drewN q) os')
  {α:Type} (f:α→AV) (nm:α→ByteArray) (d:α) (l:List α) (hf:∀ x,∃ r,f x = .agg (.val (.string (nm x))::r)∧r.length=k) {rid ver:Nat} (hid:st.rows[rid]? = some (.vec ver (k+1) (l.flatMap fun x=>(f x).cells))) (hn:0<l.length) (hz:l.length<4611686018427387904) :
  ACalls P w0 (ρ.f 6) [.vec rid ver 0 l.length,.clo g []] st fun r s=>r = .tup []∧s={ st with rows:=st.rows.set rid (.vec ver (k+1) ((Ov nm d l).flatMap fun x=>(f x).cells)) }:=by
 refine ⟨hen,fun M w ad af C=>?_⟩
 obtain ⟨v0,v1,rfl⟩:∃ v0 v1,ad = #[v0,v1]:=by
  have hs:=C.1
  simp only [List.length_cons,List.length_nil] at hs
  match ad,hs with
  | ⟨[a,b]⟩,_=>exact ⟨a,b,rfl⟩
 have h0:R w0 M w v0 (.vec rid ver 0 l.length):=C.2 0 (by simp) (by simp)
 have h1:R w0 M w v1 (.clo g []):=C.2 1 (by simp) (by simp)
 obtain ⟨au,rfl,ar⟩:=Zax h1
 have:au = #[]:=Array.size_eq_zero_iff.1 ar.1
 subst this
 have Q:∀ x,(f x).cells.length=k+1:=fun x=>by obtain ⟨r,e,N⟩:=hf x;rw [e];simp [AV.cells,N]
 have aj:(l.flatMap fun x=>(f x).cells).length=l.length*(k+1):=Uf fun x _=>Q x
 obtain ⟨f1,f2,f3,f4,f5,f6,f7,c,ty,f8,f9,ap,aw,ao⟩:=af.row rid _ hid
 cases h0 with
 | @vec _ _ _ _ p cap z hver hh =>
 obtain ⟨rfl,ay,hm⟩:=hh f1.symm
 have aa:M.blk rid<w.heap.size:=(Array.getElem?_eq_some_iff.1 f8).1
 have aq:l.length*(k+1)≤c.size:=by rw [←aj];exact ap
 -- the elements,by their number
 let enc:Nat→List Value:=fun i=>if i<l.length then (c.toList.drop (i*(k+1))).take (k+1) else .string (nm d)::List.replicate k (.int .i64 0)
 have bnd:∀ i,i<l.length→i*(k+1)+(k+1)≤c.size:=fun i z=>by
  have:(i+1)*(k+1)≤l.length*(k+1):=Nat.mul_le_mul_right _ z
  rw [Nat.succ_mul] at this;omega
 have hk:∀ i,(enc i).length=k+1:=fun i=>by
  simp only [enc];split
  ·rename_i q;have:=bnd i q;simp;omega
  ·simp
 have u:∀ i,i<l.length→∀ j,j<k+1→(enc i)[j]? = c[i*(k+1)+j]? := fun i z j V=>by
  simp only [enc,Ah z]
  rw [List.getElem?_take_of_lt V,List.getElem?_drop,Array.getElem?_toList]
 have cR:∀ i (z:i<l.length) j (V:j<k+1),∃ v x,c[i*(k+1)+j]? = some v∧(f l[i]).cells[j]? = some x∧x.one=true∧R w0 M w v x:=fun i z j V=>by
  have hb:=bnd i z
  have o:i*(k+1)+j<c.size:=by omega
  have ae:i*(k+1)+j<(l.flatMap fun x=>(f x).cells).length:=by rw [aj];have:(i+1)*(k+1)≤l.length*(k+1):=Nat.mul_le_mul_right _ z;rw [Nat.succ_mul] at this;omega
  have e:=VX (f:=fun x=>(f x).cells) (xs:=l) (fun x _=>Q x) i z j V
  rw [List.getElem?_eq_getElem ae] at e
  exact ⟨_,_,Array.getElem?_eq_getElem o,e.symm,aw _ (List.getElem_mem _),ao _ o ae⟩
 have K:∀ i,∀ v∈enc i,v.oneCell'=true:=fun i v hv=>by
  by_cases q:i<l.length
  ·obtain ⟨j,V,rfl⟩:=List.mem_iff_getElem.1 hv
   have am:j<k+1:=by rw [hk] at V;exact V
   obtain ⟨v,x,e1,e2,E,e4⟩:=cR i q j am
   have:=u i q j am
   rw [List.getElem?_eq_getElem V,e1] at this
   cases this
   exact e4.oneCell E
  ·simp only [enc,Ai q,List.mem_cons,List.mem_replicate] at hv
   rcases hv with rfl | ⟨_,rfl⟩<;>rfl
 let nmI:Nat→ByteArray:=fun i=>nm (l.getD i d)
 have Z:∀ i,∃ r,enc i = .string (nmI i)::r∧r.length=k:=fun i=>by
  by_cases q:i<l.length
  ·obtain ⟨v,x,e1,e2,E,e4⟩:=cR i q 0 (by omega)
   obtain ⟨r,er,N⟩:=hf l[i]
   rw [er] at e2
   simp only [AV.cells,List.getElem?_cons_zero,Option.some.injEq] at e2
   subst e2
   have ev:v = .string (nm l[i]):=by cases e4;rfl
   subst ev
   have hg:=u i q 0 (by omega)
   rw [e1] at hg
   cases he:enc i with
   | nil=>rw [he] at hg;cases hg
   | cons y ys =>
    rw [he] at hg
    simp only [List.getElem?_cons_zero,Option.some.injEq] at hg
    have hl:=hk i
    rw [he] at hl
    refine ⟨ys,?_,by simpa using hl⟩
    simp only [nmI,List.getD_eq_getElem?_getD,List.getElem?_eq_getElem q,Option.getD_some,hg]
  ·exact ⟨List.replicate k (.int .i64 0),by simp only [enc,nmI,Ai q,List.getD_eq_getElem?_getD,List.getElem?_eq_none (Nat.le_of_not_lt q),Option.getD_none],by simp⟩
 let cf:Nat→Nat→Int:=fun i j=>Lib.compareBytes (nmI i).data.toList (nmI j).data.toList
 have ag:CmpLays P g #[] enc (k+1) cf (M.blk rid) 0 (Array.range l.length).size w:=by
  intro m os dk az x y
  obtain ⟨r,e1,e2⟩:=Z x
  obtain ⟨r',E,e4⟩:=Z y
  have a1:=K x
  have a2:=K y
  rw [e1] at a1
  rw [E] at a2
  have:=hcmp (nmI x) (nmI y) r r' (sortWorldK enc (k+1) w (M.blk rid) 0 m dk os) e2 e4 (fun v hv=>a1 v (List.mem_cons_of_mem _ hv)) (fun v hv=>a2 v (List.mem_cons_of_mem _ hv))
  simp only [e1,E,cf]
  exact this
 have hH:HoldsK enc (k+1) w (M.blk rid) 0 (Array.range l.length):=by
  intro t G
  rw [size_flatK,Array.size_range] at G
  rw [get_flatK _ _ _ _ (by simpa using G)]
  have H:t / (k+1)<l.length:=Nat.div_lt_of_lt_mul (by rw [Nat.mul_comm];exact G)
  have N:t % (k+1)<k+1:=Nat.mod_lt _ (by omega)
  have e1:((Array.range l.length)[t / (k+1)]! : Nat)=t / (k+1):=by simp [H]
  have e2:=u _ H _ N
  have E:t / (k+1)*(k+1)+t % (k+1)=t:=by rw [Nat.mul_comm];exact Nat.div_add_mod t (k+1)
  rw [E] at e2
  rw [e1]
  have o:t<c.size:=by omega
  have J:t % (k+1)<(enc (t / (k+1))).length:=by rw [hk];exact N
  rw [getElem!_pos (enc (t / (k+1))) _ J]
  rw [List.getElem?_eq_getElem J,Array.getElem?_eq_getElem o] at e2
  refine ⟨?_,?_⟩
  ·simp only [World.cell?,f8,Nat.zero_add,id_eq]
   rw [Array.getElem?_eq_getElem o]
   exact e2.symm
  ·simp [World.frozen?,f8]
 have hS:=AnyQ.slices_SortFunc_eq L (k+1) aE zE enc hk K cf (Zg0 nmI) g #[] (M.blk rid) 0 cap (Array.range l.length) w (fun a w'=>by
   have:=hg a w'
   exact this) ag hH aa (by simpa using hz)
 simp only [Array.size_range] at hS
 have e0:(some ⟨M.blk rid,0*M.rsz rid,none⟩:Option Addr)=some ⟨M.blk rid,0,none⟩:=by rw [Nat.zero_mul]
 rw [e0]
 refine hS.mono ?_
 rintro en w' ⟨rfl,m,os,rfl⟩
 -- what the sort leaves
 let D:=pdq (ltOf cf) (Array.range l.length) 0 l.length (Lib.bitLen l.length) true true
 have hD:D.toList=J6 nmI l.length:=rfl
 have ak:D.size=l.length:=by rw [←Array.length_toList,hD,IZ]
 have O:∀ i,i<l.length→(D[i]! : Nat)<l.length:=fun i z=>by
  have U:i<D.size:=by omega
  rw [getElem!_pos D i U]
  exact Zfj nmI l.length _ (by rw [←hD];exact Array.getElem_mem_toList U)
 have av:∀ i (z:i<l.length),(J6 nmI l.length)[i]'(by rw [IZ];exact z)=(D[i]! : Nat):=fun i z=>by
  have U:i<D.size:=by omega
  rw [getElem!_pos D i U,←Array.getElem_toList]
  simp only [hD]
 let F:=flatK enc (k+1) D
 have hF:F.size=l.length*(k+1):=by simp only [F,size_flatK,ak]
 let c':Array Value:=putCells id 0 F c
 have ah:(Ov nm d l).length=l.length:=by simp only [Ov,List.length_map];exact IZ _ _
 have h:((Ov nm d l).flatMap fun x=>(f x).cells).length=l.length*(k+1):=by rw [Uf fun x _=>Q x,ah]
 have ai:∀ t,t<l.length*(k+1)→∃ v x,c'[t]? = some v∧((Ov nm d l).flatMap fun x=>(f x).cells)[t]? = some x∧x.one=true∧R w0 M w v x:=fun t G=>by
  have H:t / (k+1)<l.length:=Nat.div_lt_of_lt_mul (by rw [Nat.mul_comm];exact G)
  have N:t % (k+1)<k+1:=Nat.mod_lt _ (by omega)
  have E:t / (k+1)*(k+1)+t % (k+1)=t:=by rw [Nat.mul_comm];exact Nat.div_add_mod t (k+1)
  obtain ⟨v,x,e1,e2,e4,e5⟩:=cR _ (O _ H) _ N
  refine ⟨v,x,?_,?_,e4,e5⟩
  ·have o:t<c.size:=by omega
   simp only [c',putCells,Array.getElem?_mapIdx,Array.getElem?_eq_getElem o,Option.map_some,Nat.zero_add,Nat.zero_le,true_and,hF,Ah G,Nat.sub_zero,id_eq]
   simp only [F]
   rw [get_flatK _ _ _ _ (by rw [ak];exact G)]
   have J:t % (k+1)<(enc (D[t / (k+1)]!)).length:=by rw [hk];exact N
   rw [getElem!_pos (enc (D[t / (k+1)]!)) _ J,←List.getElem?_eq_getElem J,u _ (O _ H) _ N]
   exact e1
  ·have e6:=VX (f:=fun x=>(f x).cells) (xs:=Ov nm d l) (fun x _=>Q x) (t / (k+1)) (by rw [ah];exact H) (t % (k+1)) N
   rw [E] at e6
   rw [e6]
   have e7:(Ov nm d l)[t / (k+1)]'(by rw [ah];exact H)=l[(D[t / (k+1)]! : Nat)]'(O _ H):=by
    simp only [Ov,List.getElem_map]
    rw [show (J6 (fun i=>nm (l.getD i d)) l.length)[t / (k+1)]'(by rw [IZ];exact H)=(D[t / (k+1)]! : Nat) from av _ H]
    rw [List.getD_eq_getElem?_getD,List.getElem?_eq_getElem (O _ H),Option.getD_some]
   rw [e7]
   exact e2
 have Y:c'.size=c.size:=by simp [c',putCells]
 have n:(sortWorldK enc (k+1) w (M.blk rid) 0 m D os).heap=w.heap.modify (M.blk rid) (onCells (putCells id 0 F))++os:=rfl
 have ab:∀ b,b<w.heap.size→b≠M.blk rid→(sortWorldK enc (k+1) w (M.blk rid) 0 m D os).heap[b]? = w.heap[b]? := fun b hb ax=>by
  rw [n,Array.getElem?_append_left (by simpa using hb),Array.getElem?_modify,Ai (fun q=>ax q.symm)]
 obtain ⟨x1,x2⟩:=af.setVec (c':=c') (ty:=ty) (cs':=(Ov nm d l).flatMap fun x=>(f x).cells) (w':=sortWorldK enc (k+1) w (M.blk rid) 0 m D os) hid
  ⟨rfl,rfl,rfl,by rw [n];simp,fun b hb=>ab b (Nat.lt_of_lt_of_le hb af.base_le) (by omega)⟩ ab
  (by rw [n,Array.getElem?_append_left (by simpa using aa),Array.getElem?_modify,Ah rfl,f8];rfl) (by rw [Y];exact f9) (by rw [h,Y];exact aq)
  (fun x hx=>by
   obtain ⟨t,G,rfl⟩:=List.mem_iff_getElem.1 hx
   rw [h] at G
   obtain ⟨v,y,_,e2,E,_⟩:=ai t G
   rw [List.getElem?_eq_getElem (by rw [h];exact G)] at e2
   cases e2
   exact E)
  (fun t h1 h2=>by
   rw [h] at h2
   obtain ⟨v,y,e1,e2,_,e4⟩:=ai t h2
   rw [List.getElem?_eq_getElem (by rw [h];exact h2)] at e2
   rw [Array.getElem?_eq_getElem h1] at e1
   cases e1;cases e2
   exact e4)
 exact ⟨.tuple #[],M,.tup [],_,rfl,⟨rfl,rfl⟩,x1,x2,.tup rfl (fun i h1 _=>absurd h1 (by simp))⟩
end
structure VOne (Rw rows:Aq) (sz:Nat) (xs:List AV) (x:AV):Prop where
 pre:Rw <+: rows
 calm:∀ r∈rows.drop Rw.length,∀ y∈r.cells,∀ a b c,Under a b c y
 at_:(xs=[]∧x = .list [] .seed)∨∃ id ver,x = .vec id ver 0 xs.length∧0<xs.length∧Rw.length≤id∧rows[id]? = some (.vec ver sz (xs.flatMap AV.cells))
theorem VOne.none (Rw:Aq) (sz:Nat):VOne Rw Rw sz [] (.list [] .seed):=⟨List.prefix_refl _,by simp,.inl ⟨rfl,rfl⟩⟩
theorem VOne.of_eq {Rw rows:List RowA} {sz:Nat} {xs ys:List AV} {x:AV} (h:VOne Rw rows sz xs x) (he:xs=ys):VOne Rw rows sz ys x:=he▸h
theorem VOne.len {Rw rows:List RowA} {sz:Nat} {xs:List AV} {x:AV} (h:VOne Rw rows sz xs x):Rw.length≤rows.length:=h.pre.length_le
theorem VOne.under {Rw rows:List RowA} {sz:Nat} {xs:List AV} {x:AV} (h:VOne Rw rows sz xs x) (nb nl:Nat):Under nb rows.length nl x:=by
 rcases h.at_ with ⟨_,rfl⟩ | ⟨id,ver,rfl,_,_,h3⟩
 ·exact .list (by simp) trivial
 ·exact .vec (Aj.1 h3).1
theorem VOne.cell {Rw rows:List RowA} {sz:Nat} {xs:List AV} {x:AV} (h:VOne Rw rows sz xs x):x.cells=[x]∧CM x=true∧x.pubCell.pubCell=x.pubCell:=by
 rcases h.at_ with ⟨_,rfl⟩ | ⟨id,ver,rfl,_,_,h3⟩<;>exact ⟨rfl,rfl,rfl⟩
theorem VOne.append {P:Program} {t el:TypeId} {sz by8:Nat} {ag:Bool} {Rw rows:List RowA} {xs:List AV} {x y:AV} (h:VOne Rw rows sz xs x) (he:OV P t=some (el,sz,ag,by8)) (hz:(EW P el).isSome=true) (hs:0<sz)
  (hb:(xs.length+1)*by8≤140737488355328) (hb2:xs.length+1≤4611686018427387904) (hy:y.cells.length=sz∧CM y=true) (hp:y.pub=y) (hu:∀ c∈y.cells,∀ a b d,Under a b d c) (hxs:∀ z∈xs,z.cells.length=sz) :
  ∃ x' rows',VOne Rw rows' sz (xs++[y]) x'∧∀ (B:Am) (L:Ar) (o2:Own),B2 P ⟨B,rows,L⟩ t x (.list [y] o2)=(True,x',⟨B,rows',L⟩):=by
 have i:=h.len
 have g:D1 P el sz by8 xs.length [y]=True:=by
  simp only [D1,hs,hz,List.length_singleton,hb,hb2,true_and,List.mem_singleton,forall_eq,hy,and_self]
 rcases h.at_ with ⟨rfl,rfl⟩ | ⟨id,ver,rfl,h1,h2,h3⟩
 ·refine ⟨.vec rows.length 0 0 1,rows++[.vec 0 sz y.cells],⟨h.pre.trans (List.prefix_append _ _),fun r hr z hz' a b c=>?_,.inr ⟨rows.length,0,rfl,by simp,i,by simp⟩⟩,fun B L o2=>?_⟩
  ·rw [List.drop_append_of_le_length i] at hr
   rcases List.mem_append.1 hr with hr | hr
   ·exact h.calm r hr z hz' a b c
   ·simp only [List.mem_singleton] at hr;subst hr;exact hu z hz' a b c
  ·simp only [B2,he,Bj,C6,List.length_singleton,List.length_nil,List.flatMap_cons,List.flatMap_nil,List.append_nil,hp]
   rw [show D1 P el sz by8 0 [y]=True from g]
   simp
 ·have f:=(Aj.1 h3).1
  have e:(xs.flatMap AV.cells).length=xs.length*sz:=Uf hxs
  refine ⟨.vec id (ver+1) 0 (xs.length+1),rows.set id (.vec (ver+1) sz (xs.flatMap AV.cells++y.cells)),⟨PU h.pre h2 _,fun r hr z hz' a b c=>?_,.inr ⟨id,ver+1,by rw [List.length_append];rfl,by simp,h2,by simp [f,List.flatMap_append]⟩⟩,fun B L o2=>?_⟩
  ·rw [List.drop_set,Aa] at hr
   rcases List.mem_or_eq_of_mem_set hr with hr | rfl
   ·exact h.calm r hr z hz' a b c
   ·rcases List.mem_append.1 hz' with q | q
    ·exact h.calm (.vec ver sz (xs.flatMap AV.cells)) (by
      rw [List.mem_iff_getElem?]
      exact ⟨id-Rw.length,by rw [List.getElem?_drop,Nat.add_sub_cancel' h2];exact h3⟩) z q a b c
    ·exact hu z q a b c
  ·simp only [B2,he,Bj,C6,List.length_singleton,List.flatMap_cons,List.flatMap_nil,List.append_nil,hp,IH,h3,if_true]
   rw [g]
   simp only [e,true_and,Nat.le_refl,and_self,Prod.mk.injEq,true_and,List.take_of_length_le (Nat.le_of_eq e)]
section
variable {P:Program} {w0:World} {n:Nat} {e:Env} {st:St} {M0:Mem} {W0:World} {ro:Option Nat} {Q:AQ} {c:Code}
theorem tdV {B0 B bs X:List (List AV)} {Rw rows:List RowA} {L:List LoopA} {sz:Nat} {xs:List AV} {x:AV} (hN:M0.N=B0.length) (hNR:M0.NR=Rw.length) (hNL:M0.NL=L.length) (hc:Calm B0.length Rw.length L.length ⟨B,Rw,L⟩) (ho:VOne Rw rows sz xs x)
  (h:F3 P w0 n M0 W0 ro c Q e ⟨B++bs,rows,L⟩) (hB:B.length=B0.length:=by first | rfl | simp only [List.length_set])
  (hbs:∀ cs∈bs,∀ x∈cs,Under (B0.length+bs.length) rows.length L.length x:=by (simp +decide only [go_sem,Nat.reduceAdd])<;>(try (repeat' apply Ad))<;>first | omega | assumption)
  (he:JX (B0.length+bs.length) rows.length L.length e:=by (simp +decide only [go_sem,Nat.reduceAdd,JX])<;>(try (repeat' apply Ad))<;>first | omega | assumption):F3 P w0 n M0 W0 ro c Q e ⟨B++(bs++X),rows,L⟩:=by
 rw [←hB] at hN hc hbs he
 clear hB B0
 have i:=ho.len
 have d:St.cut ⟨B++(bs++X),rows,L⟩ (B.length+bs.length) rows.length L.length=⟨B++bs,rows,L⟩:=by
  simp only [St.cut,List.take_length,←List.append_assoc]
  rw [List.take_left' (by simp)]
 refine V2 (B.length+bs.length) rows.length L.length (by simp) (Nat.le_refl _) (Nat.le_refl _) (by omega) (by omega) (by omega) ?_ he (by rw [d];exact h)
 rw [d]
 refine ⟨fun r hr x a=>?_,fun cs hcs x a=>?_,fun g b k x a f=>?_⟩
 ·obtain ⟨t,rfl⟩:=ho.pre
  rcases List.mem_append.1 hr with hr | hr
  ·exact DF (by omega) (by omega) (Nat.le_refl _) (hc.rows r hr x a)
  ·exact ho.calm r (by simpa using hr) x a _ _ _
 ·rcases List.mem_append.1 hcs with hcs | hcs
  ·exact DF (by omega) (by omega) (Nat.le_refl _) (hc.boxes cs hcs x a)
  ·exact hbs cs hcs x a
 ·exact DF (by omega) (by omega) (Nat.le_refl _) (hc.loops g b k x a f)
theorem Zeh {sz:Nat} {ys:List AV} (hy:∀ y∈ys,∃ cs,y = .agg cs∧cs.length=sz):Ru sz true (ys.flatMap AV.cells) 0 ys.length=ys:=by
 have b:∀ y∈ys,y.cells.length=sz:=fun y h=>by obtain ⟨cs,rfl,q⟩:=hy y h;exact q
 refine List.ext_getElem (by simp [Ru]) (fun i c a=>?_)
 simp only [Ru,List.getElem_map,List.getElem_range,Nat.zero_add,RI,if_true]
 obtain ⟨cs,e,q⟩:=hy _ (List.getElem_mem a)
 rw [e]
 congr 1
 refine List.ext_getElem? fun j=>?_
 by_cases hj:j<sz
 ·rw [List.getElem?_take_of_lt hj,List.getElem?_drop,VX b i a j hj,e];rfl
 ·rw [List.getElem?_eq_none (by simp;omega),List.getElem?_eq_none (by omega)]
end
end Go.Ev
namespace Go.Proofs
open Go.Shelf
def Tryz.laysSort_ren:Go.Shelf.Ren:=⟨fun | 6=>276 | 15=>240 | 14=>320 | 28=>298 | 29=>299 | 20=>348 | 21=>349 | 22=>350 | 23=>351 | 24=>352 | 25=>353 | 26=>354 | 27=>355 | 46=>366 | 47=>333 | 48=>334 | 49=>367 | 50=>368 | 57=>374 | n=>n,fun | 22=>32 | 24=>81 | 25=>177 | 3=>3 | 39=>231 | 0=>0 | 53=>299 | 55=>301 | 4=>4 | 46=>293 | 45=>292 | 50=>90 | 5=>5 | 9=>9 | 66=>330 | 70=>135 | 76=>351 | 77=>302 | n=>n,fun | n=>n⟩
theorem Tryz.laysSort:Go.Proofs.SlLaysF0.n6 Tryz.prog Tryz.laysSort_ren:={
 mixed:=by kernel_rfl
 f6:=⟨Tryz.f276.name,by decide,Tryz.func276.trans (congrArg some (by kernel_rfl))⟩
 f14:=⟨Tryz.f320.name,by decide,Tryz.func320.trans (congrArg some (by kernel_rfl))⟩
 f15:=Tryz.func240.trans (congrArg some (by kernel_rfl))
 f20:=⟨Tryz.f348.name,by decide,Tryz.func348.trans (congrArg some (by kernel_rfl))⟩
 f21:=⟨Tryz.f349.name,by decide,Tryz.func349.trans (congrArg some (by kernel_rfl))⟩
 f22:=⟨Tryz.f350.name,by decide,Tryz.func350.trans (congrArg some (by kernel_rfl))⟩
 f23:=⟨Tryz.f351.name,by decide,Tryz.func351.trans (congrArg some (by kernel_rfl))⟩
 f24:=⟨Tryz.f352.name,by decide,Tryz.func352.trans (congrArg some (by kernel_rfl))⟩
 f25:=⟨Tryz.f353.name,by decide,Tryz.func353.trans (congrArg some (by kernel_rfl))⟩
 f26:=⟨Tryz.f354.name,by decide,Tryz.func354.trans (congrArg some (by kernel_rfl))⟩
 f27:=⟨Tryz.f355.name,by decide,Tryz.func355.trans (congrArg some (by kernel_rfl))⟩
 f28:=Tryz.func298.trans (congrArg some (by kernel_rfl))
 f29:=Tryz.func299.trans (congrArg some (by kernel_rfl))
 f46:=⟨Tryz.f366.name,by decide,Tryz.func366.trans (congrArg some (by kernel_rfl))⟩
 f47:=Tryz.func333.trans (congrArg some (by kernel_rfl))
 f48:=Tryz.func334.trans (congrArg some (by kernel_rfl))
 f49:=⟨Tryz.f367.name,by decide,Tryz.func367.trans (congrArg some (by kernel_rfl))⟩
 f50:=⟨Tryz.f368.name,by decide,Tryz.func368.trans (congrArg some (by kernel_rfl))⟩
 f57:=⟨Tryz.f374.name,by decide,Tryz.func374.trans (congrArg some (by kernel_rfl))⟩
 t0:=Tryz.underlying0
 a0:=Tryz.isAgg0
 z0:=Tryz.sizeOf0
 v0:=Tryz.zeroValue0
 t3:=Tryz.underlying3
 a3:=Tryz.isAgg3
 z3:=Tryz.sizeOf3
 v3:=Tryz.zeroValue3
 t4:=Tryz.underlying4
 a4:=Tryz.isAgg4
 z4:=Tryz.sizeOf4
 v4:=Tryz.zeroValue4
 t5:=Tryz.underlying5
 a5:=Tryz.isAgg5
 z5:=Tryz.sizeOf5
 v5:=Tryz.zeroValue5
 t9:=Tryz.underlying9
 a9:=Tryz.isAgg9
 z9:=Tryz.sizeOf9
 v9:=Tryz.zeroValue9
 t22:=Tryz.underlying32
 a22:=Tryz.isAgg32
 z22:=Tryz.sizeOf32
 v22:=Tryz.zeroValue32
 t25:=Tryz.underlying177
 a25:=Tryz.isAgg177
 z25:=Tryz.sizeOf177
 v25:=Tryz.zeroValue177
 t39:=Tryz.underlying231
 a39:=Tryz.isAgg231
 z39:=Tryz.sizeOf231
 v39:=Tryz.zeroValue231
 t45:=Tryz.underlying292
 a45:=Tryz.isAgg292
 z45:=Tryz.sizeOf292
 v45:=Tryz.zeroValue292
 t46:=Tryz.underlying293
 a46:=Tryz.isAgg293
 z46:=Tryz.sizeOf293
 v46:=Tryz.zeroValue293
 t50:=Tryz.underlying90
 a50:=Tryz.isAgg90
 z50:=Tryz.sizeOf90
 v50:=Tryz.zeroValue90
 t53:=Tryz.underlying299
 a53:=Tryz.isAgg299
 z53:=Tryz.sizeOf299
 v53:=Tryz.zeroValue299
 t55:=Tryz.underlying301
 a55:=Tryz.isAgg301
 z55:=Tryz.sizeOf301
 v55:=Tryz.zeroValue301
 t66:=Tryz.underlying330
 a66:=Tryz.isAgg330
 z66:=Tryz.sizeOf330
 v66:=Tryz.zeroValue330
 t70:=Tryz.underlying135
 a70:=Tryz.isAgg135
 z70:=Tryz.sizeOf135
 v70:=Tryz.zeroValue135
 t76:=Tryz.underlying351
 a76:=Tryz.isAgg351
 z76:=Tryz.sizeOf351
 v76:=Tryz.zeroValue351
 t77:=Tryz.underlying302
 a77:=Tryz.isAgg302
 z77:=Tryz.sizeOf302
 v77:=Tryz.zeroValue302 }
end Go.Proofs
namespace Go.Proofs.YtmcnjijeocmkgaaGreatDoor
open Go Go.RowKit Go.Ev Go.Shelf Go.Sort Go.Lib
theorem ZcH (s s':ByteArray) (r r':List Value) (W:World) (h1:r.length=6) (h2:r'.length=6) (h3:∀ v∈r,v.oneCell'=true) (h4:∀ v∈r',v.oneCell'=true) :
  Calls Tryz.prog 277 #[.agg (.string s::r).toArray,.agg (.string s'::r').toArray] W fun e w'=>e = .returned (.int .i64 (Lib.compareBytes s.data.toList s'.data.toList))∧∃ q os',w'=grow (W.drewN q) os':=by
 have hcon:=fun a=>Tryz.strings_Compare s s' a
 change ∀ a,Calls Tryz.prog 126 _ _ _ at hcon
 generalize Lib.compareBytes s.data.toList s'.data.toList=z at hcon ⊢
 match r,h1 with
 | [a1,a2,a3,a4,a5,a6],_ =>
 match r',h2 with
 | [b1,b2,b3,b4,b5,b6],_ =>
 simp only [List.mem_cons,List.not_mem_nil,or_false,forall_eq_or_imp,forall_eq] at h3 h4
 go_enter Tryz.func277,Tryz.ntmps277
 go_wp2_with (go_at_call 126;refine (hcon _).mono ?_;rintro e w' ⟨rfl,rfl⟩)
 go_ret
 exact ⟨rfl,0,_,by rw [alloc_eq_grow,alloc_eq_grow,grow_grow];rfl⟩
def Rk:String:=(Rows.evolveWitnessRow.laid.map (·.1)).getD 2 default
abbrev Pow10 (w:World):Prop:=Lib.TabIs Tryz.prog w Rk .u64 Lib.pow10Tab
theorem Pow10.below {w0 w:World} (h:Pow10 w0) (hb:Below w0.heap.size w0 w):Pow10 w:=by
 unfold Pow10 Lib.TabIs World.var? at *
 cases hg:Tryz.prog.globalNamed Rk with
 | none=>rw [hg] at h;cases h
 | some g =>
  rw [hg] at h
  simp only [Ae] at h ⊢
  cases hx:w0.heap[g]? with
  | none=>rw [hx] at h;cases h
  | some o =>
   rw [hb.block g (Array.getElem?_eq_some_iff.1 hx).1]
   exact h
theorem Wp (u:Nat):Lib.nDigits u≤u / 10+1:=by
 induction u using Nat.strongRecOn with
 | _ u ih =>
  by_cases h:u<10
  ·rw [Lib.nDigits_small h];omega
  ·rw [Lib.nDigits_big h]
   have:=ih (u / 10) (by omega)
   omega
theorem Zey (n:Int) (h : -9223372036854775808≤n∧n≤9223372036854775807):(Lib.itoa n).length≤maxLen:=by
 unfold Lib.itoa maxLen
 split
 ·rw [List.length_cons,Lib.decDigits_length];have:=Wp n.natAbs;omega
 ·rw [Lib.decDigits_length];have:=Wp n.toNat;omega
theorem Zf7 (w0:World) (B:Am) (Rw:Aq) (L:Ar) (hP:Pow10 w0) (n:Int) (hn : -9223372036854775808≤n∧n≤9223372036854775807) :
  ACalls Tryz.prog w0 134 [Ak n] ⟨B,Rw,L⟩ fun v s'=>v = .val (.string ⟨(Lib.itoa n).toArray⟩)∧s'=⟨B,Rw,L⟩ :=
 MC (Bl Tryz.func134 rfl (by decide)) (by
  show decide ((Lib.itoa n).toArray.size≤maxLen)=true
  rw [List.size_toArray]
  exact Ag (Zey n hn)) fun M w c d a=>by
  have:=TG (us:=[.int .i64 n]) a
  subst this
  refine (Any.strconv_Itoa Tryz.laysM171 n hn.1 hn.2 w (hP.below d)).mono ?_
  rintro e g ⟨rfl,k,b,rfl⟩
  refine ⟨rfl,rfl,rfl,rfl,by simp [grow],fun i f=>?_⟩
  show (grow (w.drewN k) b).heap[i]? = w.heap[i]?
  rw [heap_grow_old (w.drewN k) b f]
  rfl
end Go.Proofs.YtmcnjijeocmkgaaGreatDoor
namespace Go.Proofs.YtmcnjijeocmkgaaGreatDoor
open Go Go.RowKit Go.Ev
def Lu (g:Int × ByteArray × Int × Ty × List Vl) (b:ByteArray):Bool :=
 Eb g.2.1 b
theorem ZA (w0:World) (B:Am) (Rw:Aq) (L:Ar) (a0:Int × ByteArray × Int × Ty × List Vl) (la1:Nat) (a1:ByteArray) (hla1:B[la1]? = some ([.val (.string a1)])) (r:Bool) (h:Lu a0 a1=r) :
  ACalls Tryz.prog w0 214 [.agg (Ak a0.1::(.val (.string a0.2.1)::(Ak a0.2.2.1::((a0.2.2.2.1.cs)++([.list (a0.2.2.2.2.map Bv) .none]))))),.box la1 0] ⟨B,Rw,L⟩ fun x st=>x = .val (.bool r)∧st=⟨B,Rw,L⟩:=by
 rw [Lu] at h
 refine hd [.tmp 3] Tryz.func214 Tryz.ntmps214 fun M0 W0 f d c a g e hs=>?_
 simp only [AG]
 have b:=(Aj.1 hla1).1
 have hs:=Ad (Aw hla1) hs
 refine rg [1,2] hs ?_
 refine rg [3] hs ?_
 exact rT h hs a e
theorem Yj (w0:World) (B:Am) (Rw:Aq) (L:Ar) (a0:Int × ByteArray × Int × Ty × List Vl) (la1:Nat) (a1:ByteArray) (hla1:B[la1]? = some ([.val (.string a1)])) :
  ACalls Tryz.prog w0 214 [.agg (Ak a0.1::(.val (.string a0.2.1)::(Ak a0.2.2.1::((a0.2.2.2.1.cs)++([.list (a0.2.2.2.2.map Bv) .none]))))),.box la1 0] ⟨B,Rw,L⟩ fun x st=>x = .val (.bool (Lu a0 a1))∧st=⟨B,Rw,L⟩:=ZA w0 B Rw L a0 la1 a1 hla1 _ rfl
theorem tgh {α β:Type} {a:α} {b:β} (h:Tg (a,b)):Tg a:=trivial
theorem tgt {α β:Type} {a:α} {b:β} (h:Tg (a,b)):Tg b:=trivial
theorem bI2 {α β:Type} {o:Option α} {x:α} {f:α→Option β} {r:β} {p:Prop} (hx:o=some x) (k:f x=some r→p):o.bind f=some r→p:=fun h=>by
 rw [hx] at h
 exact k h
theorem bI {α β:Type} {o:Option α} {f:α→Option β} {r:β} {p:Prop} (k:∀ y,o=some y→f y=some r→p):o.bind f=some r→p:=fun h=>by
 obtain ⟨y,a,b⟩:=bind_some h
 exact k y a b
theorem gI {β:Type} {c:Prop} [Decidable c] {x:Option β} {r:β} {p:Prop} (k:c→x=some r→p):(if c then x else none)=some r→p:=fun h=>by
 obtain ⟨a,b⟩:=Au h
 exact k a b
theorem xI {α β:Type} {l:List α} {i:Int} {F:α→Option β} {r:β} {A p:Prop} (a:A) (k:∀ x,0≤i→i<l.length→((∀ g:α→AV,(l.map g).getD i.toNat .junk=g x)∧(∀ (g:α→AV) (j:Nat),i=(j:Int)→(l.map g).getD j .junk=g x)∧A)→F x=some r→p):(B1 l i).bind F=some r→p:=fun h=>by
 obtain ⟨x,d,h⟩:=bind_some h
 obtain ⟨a1,b,c⟩:=B9 d
 exact k x a1 b ⟨fun g=>C5 c,fun g j e=>by rw [show j=i.toNat by omega];exact C5 c,a⟩ h
section
variable {P:Program} {w0:World} {n:Nat} {M0:Mem} {W0:World} {ro:Option Nat} {e:Env} {st:St} {Q:AQ}
theorem cI {α β' β:Type} {ta:α} {tb:β'} {F:Prop} {b:Bool} {X Y r:β} (f:F) {c:Operand} {x y:Code} (ht:Tg ta→(b=true∧F)→X=r→F3 P w0 n M0 W0 ro x Q e st) (hf:Tg tb→(b=false∧F)→Y=r→F3 P w0 n M0 W0 ro y Q e st)
  (hc:Ba e true c) (hb:AD e c = .val (.bool b)):(if b=true then X else Y)=r→Tg (ta,tb)→F3 P w0 n M0 W0 ro (.cond c x y) Q e st :=
 fun h _=>BN h f (ht trivial) (hf trivial) hc (fun _=>hb)
theorem cT {c:Operand} {x y:Code} (c1:Ba e true c) (c2:AD e c = .val (.bool true)) (c3:F3 P w0 n M0 W0 ro x Q e st):F3 P w0 n M0 W0 ro (.cond c x y) Q e st:=Di true c1 c2 (fun _=>c3) (fun q=>Bool.noConfusion q)
theorem cF {c:Operand} {x y:Code} (c1:Ba e true c) (c2:AD e c = .val (.bool false)) (c3:F3 P w0 n M0 W0 ro y Q e st):F3 P w0 n M0 W0 ro (.cond c x y) Q e st:=Di false c1 c2 (fun q=>Bool.noConfusion q) (fun _=>c3)
theorem ZjC {f:FuncId} {c d:Bool} {cs args args':List AV} {k:AV→St→Prop} {v:AV}
  (hA:ACalls P w0 f args' st fun r s=>r=v∧s=st) (hE:(args++cs).map AV.pubA=args') (hk:k v st):LH P w0 c d (.clo f cs) args st k:=As v hA hE hk
theorem evI {c:Nat} {d:Bool} {all os:List Oper} {K:Env→St→Prop} (h:evS P w0 n d all (X9 P w0 n d all K c) K os e st):X9 P w0 n d all K (c+1) os e st:=h
theorem Zll {m:Nat} {L:List Nat} (t:Tg (m::L)) (hm:P.follows .mixedOrders=true) {id:Nat} {l:List Oper}
  (hev:X9 P w0 n true l (fun e1 s1=>X9 P w0 n false l (fun e2 s2=>Q .normal (EY L e2) s2) 9 (l.drop m) e1 s1) 9 (l.take m) e st) (hB:Y5 l m=true:=by kernel_rfl):F3 P w0 n M0 W0 ro (.region id l.toArray true) Q e st:=Zb6 hm m 9 9 L hB hev
theorem te {B0 B bs X:List (List AV)} {Rw rows:List RowA} {L:List LoopA} {l:List (Nat × Nat × Ev.Own)} {c:Code} (hq:M0.N=B0.length∧M0.NR=Rw.length∧M0.NL=L.length∧Ev.Calm B0.length Rw.length L.length ⟨B,Rw,L⟩) (ho:Owns Rw rows l)
  (hB:B.length=B0.length) (hbs:(∀ x∈l,x.2.2.under rows.length)→∀ cs∈bs,∀ x∈cs,Under (B0.length+bs.length) rows.length L.length x)
  (he:(∀ x∈l,x.2.2.under rows.length)→JX (B0.length+bs.length) rows.length L.length e) (h:F3 P w0 n M0 W0 ro c Q e ⟨B++bs,rows,L⟩):F3 P w0 n M0 W0 ro c Q e ⟨B++(bs++X),rows,L⟩ :=
 AY hq.1 hq.2.1 hq.2.2.1 hB hq.2.2.2 ho (hbs ho.unders) (he ho.unders) h
theorem fI {α β' β:Type} {ta:α} {tb:β'} {F:Prop} {b:Bool} {X Y r:β} {p:Prop} (f:F) (ht:Tg ta→(b=true∧F)→X=r→p) (hf:Tg tb→(b=false∧F)→Y=r→p):(if b=true then X else Y)=r→Tg (ta,tb)→p:=fun h _=>by
 cases b with
 | true=>exact ht trivial ⟨rfl,f⟩ h
 | false=>exact hf trivial ⟨rfl,f⟩ h
theorem ckA {a b c d:Prop} (cc:d) (co:c) (ce:a) (cs:b):a∧b∧c∧d:=⟨ce,cs,co,cc⟩
def preL:List (List AV)→List (List AV)→Prop
 | [],_=>True
 | _::_,[]=>False
 | b::bs,c::cs=>c=b∧preL bs cs
attribute [go_sem] preL.eq_1 preL.eq_2 preL.eq_3
theorem ZdU:∀ {bs cs:List (List AV)},preL bs cs→cs=bs++cs.drop bs.length
 | [],_,_=>rfl
 | _::_,[],h=>h.elim
 | b::bs,c::cs,h=>by rw [h.1,List.length_cons,List.drop_succ_cons,List.cons_append,←ZdU h.2]
theorem ckI {B bs cs:List (List AV)} {rows:List RowA} {L:List LoopA} (h:preL bs cs):(⟨B++cs,rows,L⟩:St)=⟨B++(bs++cs.drop bs.length),rows,L⟩:=by rw [←ZdU h]
theorem ckB {B:List (List AV)} {rows:List RowA} {L:List LoopA}:(⟨B,rows,L⟩:St)=⟨B++([]++[]),rows,L⟩:=by simp
theorem Owns.n1 {Rw rows:List RowA} {sz n m:Nat} {o:Ev.Own} (h:Owns Rw rows [(sz,n,o)]) (e:n=m):Owns Rw rows [(sz,m,o)]:=e▸h
theorem Owns.n2 {Rw rows:List RowA} {sz n m sz' n' m':Nat} {o o':Ev.Own} (h:Owns Rw rows [(sz,n,o),(sz',n',o')]) (e:n=m) (e':n'=m'):Owns Rw rows [(sz,m,o),(sz',m',o')]:=e▸e'▸h
structure AE (P:Program) (t el:TypeId) (sz:Nat) (ag:Bool) (by8:Nat):Prop where
 he:OV P t=some (el,sz,ag,by8)
 hz:(EW P el).isSome=true
 hs:0<sz
theorem ae {P:Program} {t el:TypeId} {sz by8:Nat} {ag:Bool} {z:List AV} (he:OV P t=some (el,sz,ag,by8)) (hz:EW P el=some z) (hs:0<sz:=by decide):AE P t el sz ag by8:=⟨he,by rw [hz];rfl,hs⟩
theorem aI {P:Program} {t el:TypeId} {sz by8 n:Nat} {ag:Bool} {Rw rows:List RowA} {l:List (Nat × Nat × Ev.Own)} {o:Ev.Own} {β:Type} {x:Option β} {r:β} {A p:Prop} (a:AE P t el sz ag by8) (hO:Owns Rw rows ((sz,n,o)::l)) (f:A)
  (k:∀ o' rows',Owns Rw rows' ((sz,n+1,o')::l)→((n+1)*by8≤140737488355328∧n+1≤4611686018427387904) →
   ((∀ (xs:List AV) (y:AV) (B:Am) (L:Ar) (o2:Ev.Own),xs.length=n→(∀ z∈xs,z.cells.length=sz)→B2 P ⟨B,rows,L⟩ t (.list xs o) (.list [y] o2)=((y.cells.length=sz∧CM y=true),.list (xs++[y.pub]) o',⟨B,rows',L⟩))∧A)→x=some r→p) :
  (if (n+1)*by8≤140737488355328∧n+1≤4611686018427387904 then x else none)=some r→p:=fun h=>by
 obtain ⟨b,h⟩:=Au h
 obtain ⟨o',rows',c,q⟩:=hO.append (P:=P) a.he a.hz a.hs 1 b.1 b.2
 refine k o' rows' c b ⟨fun xs y B L o2 d e=>?_,f⟩ h
 have:=q xs [y] B L o2 d rfl e
 simpa only [List.mem_singleton,forall_eq,List.map_cons,List.map_nil] using this
theorem q1 {a:Prop} (x:a):a∧True:=⟨x,trivial⟩
theorem q2 {a b:Prop} (x:a) (y:b):a∧b∧True:=⟨x,y,trivial⟩
theorem q3 {a b c:Prop} (x:a) (y:b) (z:c):a∧b∧c∧True:=⟨x,y,z,trivial⟩
theorem skI {d:Bool} {fv:AV} {args:List AV} {k:AV→St→Prop} (h:k .junk st):LH P w0 false d fv args st k:=Xr h
theorem ZlV {B:List (List AV)} {l:Nat} {c:List AV} (h:B[l]? = some c):B[l]? = some c:=h
theorem ZjB {f:FuncId} {c d:Bool} {cs args args':List AV} {k:AV→St→Prop} {v:AV}
  (hA:ACalls P w0 f args' st fun r s=>r=v∧s=st) (hE:args++cs=args') (hk:k v st):LH P w0 c d (.clo f cs) args st k:=TZ v hA hE hk
end
theorem go {T F C1 C2 C3 C G H HC HK p:Prop} (tL:T) (h:H) (hs:F) (hN:C1) (hNR:C2) (hNL:C3) (hcalm:C) (hO:G) (hc:HC) (hk:HK) (k:T→H→F→C1→C2→C3→C→G→HC→HK→p:=by
    intro tL h hs hN hNR hNL hcalm hO hc hk
    try
      ((with_reducible apply te ⟨hN,hNR,hNL,hcalm⟩ hO)
       case' hB=>first | rfl | simp only [List.length_set]
       case' hbs=>(intro hU;(try simp only [List.mem_cons,List.not_mem_nil,or_false,forall_eq_or_imp,forall_eq] at hU);(first | simp +decide only [go_sem,Nat.reduceAdd,JX,hU] | simp +decide only [go_sem,Nat.reduceAdd,JX])<;>(try (repeat' apply Ad))<;>first | omega | assumption | exact hU.1 | exact hU.2 | exact hU.2.1 | exact hU.2.2)
       case' he=>(intro hU;(try simp only [List.mem_cons,List.not_mem_nil,or_false,forall_eq_or_imp,forall_eq] at hU);(first | simp +decide only [go_sem,Nat.reduceAdd,JX,hU] | simp +decide only [go_sem,Nat.reduceAdd,JX])<;>(try (repeat' apply Ad))<;>first | omega | assumption | exact hU.1 | exact hU.2 | exact hU.2.1 | exact hU.2.2))
    repeat' first
      | (revert h;(with_reducible refine xI hs ?_);intro x hxa hxb hs h)
      | (revert h;(with_reducible refine bI2 (by assumption) ?_);intro h)
      | (revert h;(with_reducible refine bI ?_);intro y hy h)
      | (revert h;(first | (with_reducible refine aI hc.1 hO hs ?_) | (with_reducible refine aI hc.2.1 hO hs ?_) | (with_reducible refine aI hc.2.2.1 hO hs ?_) | (with_reducible refine aI hc.2.2.2.1 hO hs ?_) | (with_reducible refine aI hc.2.2.2.2.1 hO hs ?_));intro o rows hO hg hs h)
      | (revert h;(first | (with_reducible refine aI hc.1 (hO.full _ 0) hs ?_) | (with_reducible refine aI hc.2.1 (hO.full _ 0) hs ?_) | (with_reducible refine aI hc.2.2.1 (hO.full _ 0) hs ?_) | (with_reducible refine aI hc.2.2.2.1 (hO.full _ 0) hs ?_) | (with_reducible refine aI hc.2.2.2.2.1 (hO.full _ 0) hs ?_));intro o rows hO hg hs h)
      | (revert h;(first | (with_reducible refine aI hc.1 (hO.swap (List.Perm.swap _ _ _)) hs ?_) | (with_reducible refine aI hc.2.1 (hO.swap (List.Perm.swap _ _ _)) hs ?_) | (with_reducible refine aI hc.2.2.1 (hO.swap (List.Perm.swap _ _ _)) hs ?_) | (with_reducible refine aI hc.2.2.2.1 (hO.swap (List.Perm.swap _ _ _)) hs ?_) | (with_reducible refine aI hc.2.2.2.2.1 (hO.swap (List.Perm.swap _ _ _)) hs ?_));intro o rows hO hg hs h)
      | (revert h;(first | (with_reducible refine aI hc.1 ((hO.full _ 0).swap (List.Perm.swap _ _ _)) hs ?_) | (with_reducible refine aI hc.2.1 ((hO.full _ 0).swap (List.Perm.swap _ _ _)) hs ?_) | (with_reducible refine aI hc.2.2.1 ((hO.full _ 0).swap (List.Perm.swap _ _ _)) hs ?_) | (with_reducible refine aI hc.2.2.2.1 ((hO.full _ 0).swap (List.Perm.swap _ _ _)) hs ?_) | (with_reducible refine aI hc.2.2.2.2.1 ((hO.full _ 0).swap (List.Perm.swap _ _ _)) hs ?_));intro o rows hO hg hs h)
      | (revert h;(with_reducible refine gI ?_);intro hg h)
      | (with_reducible apply Ad)
      | ((with_reducible refine hK _ _ ?_);clear hK)
      | (with_reducible refine hk.1 _ _ ?_)
      | (with_reducible refine hk.2.1 _ _ ?_)
      | (with_reducible refine hk.2.2.1 _ _ ?_)
      | (with_reducible exact hk.2.1 _ _ h)
      | (clear hK;(with_reducible refine hK _ _ ?_);clear hK)
      | (clear hK;clear hK;(with_reducible refine hK _ _ ?_);clear hK)
      | ((with_reducible refine evI ?_);simp +decide only [go_sem,Nat.reduceAdd,hs])
      | (with_reducible refine skI ?_)
      | ((with_reducible apply ZjC)
         case' hA=>first | apply hc.1 | apply hc.2.1 | apply hc.2.2.1 | apply hc.2.2.2.1 | apply hc.2.2.2.2.1 | apply hc.2.2.2.2.2.1 | apply hc.2.2.2.2.2.2.1 | apply hc.2.2.2.2.2.2.2.1
         case' hE=>rfl
         try (any_goals assumption))
      | ((with_reducible apply ZjC)
         case' hA=>first | apply hc.1 | apply hc.2.1 | apply hc.2.2.1 | apply hc.2.2.2.1 | apply hc.2.2.2.2.1 | apply hc.2.2.2.2.2.1 | apply hc.2.2.2.2.2.2.1 | apply hc.2.2.2.2.2.2.2.1
         any_goals (show _=some _;assumption)
         case' hE=>first | rfl | (simp +decide only [go_sem,Nat.reduceAdd,hs];done) | (simp +decide only [go_sem,Nat.reduceAdd,Vl.cs,Ty.cs,hs];done)
         try (any_goals assumption))
      | ((with_reducible apply ZjB)
         case' hA=>first | apply hc.1 | apply hc.2.1 | apply hc.2.2.1 | apply hc.2.2.2.1 | apply hc.2.2.2.2.1 | apply hc.2.2.2.2.2.1 | apply hc.2.2.2.2.2.2.1 | apply hc.2.2.2.2.2.2.2.1
         case' hE=>rfl
         try (any_goals first | assumption | exact List.prefix_append _ _ | exact List.prefix_refl _ | exact hO.pre))
      | ((with_reducible apply ZjB)
         case' hA=>first | apply hc.1 | apply hc.2.1 | apply hc.2.2.1 | apply hc.2.2.2.1 | apply hc.2.2.2.2.1 | apply hc.2.2.2.2.2.1 | apply hc.2.2.2.2.2.2.1 | apply hc.2.2.2.2.2.2.2.1
         any_goals (show _=some _;assumption)
         case' hE=>first | rfl | (simp +decide only [go_sem,Nat.reduceAdd,hs];done) | (simp +decide only [go_sem,Nat.reduceAdd,Vl.cs,Ty.cs,hs];done)
         try (any_goals first | assumption | exact List.prefix_append _ _ | exact List.prefix_refl _ | exact hO.pre))
      | ((with_reducible refine ZlV ?_);first | rfl | (simp +decide only [go_sem,Nat.reduceAdd,hs];done))
      | ((with_reducible apply An);intro K hK)
      | ((with_reducible refine LF (c:=9) tg (tgh tL) ?_);replace tL:=tgt tL)
      | (with_reducible apply Ao)
      | (revert tL;revert h;(with_reducible apply cI hs)
         case' hc=>simp +decide only [go_sem,Nat.reduceAdd]
         case' hb=>first | (simp +decide only [go_sem,Nat.reduceAdd,hs];done) | (simp +decide only [go_sem,Nat.reduceAdd,hs];rfl)
         case' ht=>intro tL hs h
         case' hf=>intro tL hs h)
      | ((with_reducible refine Df ?_)
         simp +decide only [go_sem,Nat.reduceAdd,hs]
         first | (have hgt:=Option.some.inj h;subst hgt) | subst h
         first | refine E8 hcalm rfl hO.pre ?_ ⟨?_,?_⟩ | refine HD hcalm rfl hO.pre ?_ ⟨?_,?_⟩ | refine E8 (Az hcalm ?_) (List.length_set ..) hO.pre ?_ ⟨?_,?_⟩ | refine HD (Az hcalm ?_) (List.length_set ..) hO.pre ?_ ⟨?_,?_⟩ | exact hk.1 _ _ rfl _
         all_goals first | rfl | (simp +decide only [go_sem,Nat.reduceAdd,hs];done) | (simp +decide only [go_sem,Nat.reduceAdd,Vl.cs,Ty.cs,hs];done) | (simp_all;done))
      | ((with_reducible refine Wg (tgh tL) ?_);replace tL:=tgt tL;first | (with_reducible refine Dj ?_) | (with_reducible refine LK ?_)
         simp +decide only [go_sem,Nat.reduceAdd])
      | ((with_reducible refine Zll (tgh tL) Oo ?_);replace tL:=tgt tL)
      | ((with_reducible apply cT)
         case' c1=>simp +decide only [go_sem,Nat.reduceAdd]
         case' c2=>first | rfl | (simp +decide only [go_sem,Nat.reduceAdd,hs];done))
      | ((with_reducible apply cF)
         case' c1=>simp +decide only [go_sem,Nat.reduceAdd]
         case' c2=>first | rfl | (simp +decide only [go_sem,Nat.reduceAdd,hs];done))
      | (revert tL;revert h;(with_reducible refine fI hs ?_ ?_)<;>(intro tL hs h;(try have hs:=Ad (of_decide_eq_true hs.1) hs);(try have hs:=Ad (of_decide_eq_false hs.1) hs);try simp +decide only [go_sem,Nat.reduceAdd,hs]))
      | ((with_reducible apply Exists.intro)
         repeat (with_reducible apply Exists.intro)
         (with_reducible apply ckA)
         case' cc=>exact h
         case' co=>first | exact hO | (refine Owns.n1 hO ?_;first | rfl | simp only [List.length_append,List.length_cons,List.length_nil,List.length_map,Nat.zero_add,Nat.add_zero]) | (refine Owns.n2 (hO.swap (List.Perm.swap _ _ _)) ?_ ?_<;>(first | rfl | simp only [List.length_append,List.length_cons,List.length_nil,List.length_map,Nat.zero_add,Nat.add_zero])) | (refine Owns.n2 hO ?_ ?_<;>(first | rfl | simp only [List.length_append,List.length_cons,List.length_nil,List.length_map,Nat.zero_add,Nat.add_zero]))
         case' cs=>first | exact ckB | (refine ckI ?_;first | rfl | (simp +decide only [go_sem,Nat.reduceAdd,hs];done))
         case' ce=>first | rfl | (simp +decide only [go_sem,Nat.reduceAdd,hs];done))
      | exact cl):p:=k tL h hs hN hNR hNL hcalm hO hc hk
def NQ (rec:Vl→Option Vl) (n:Nat) (b:Vl) (b2_k22_4:List Vl) (b2_k22_5:List (ByteArray × Vl)):Option Vl :=
 some (Vl.mk b.kind b.int b.scale b.text b2_k22_4 b2_k22_5)
def IL (rec:Vl→Option Vl) (n:Nat) (h:Vl):Nat→Int→(List Vl)→(List (ByteArray × Vl))→Option Vl
 | 0,_,_,_=>none
 | m+1,b,b2_l25_4,b2_l25_5 =>
  if decide (b<(h.fields.length:Int)) then
   (B1 h.fields b).bind fun g =>
   (rec g.2).bind fun q =>
   if (b2_l25_5.length+1)*104≤140737488355328∧b2_l25_5.length+1≤4611686018427387904 then
    if BM (b+1) then
     (IL rec n h m) (b+1) b2_l25_4 (b2_l25_5++([(g.1,q)]))
    else none
   else none
  else
   NQ rec n h b2_l25_4 b2_l25_5
def O1 (rec:Vl→Option Vl) (n:Nat) (b:Vl) (b2_k5_4:List Vl):Option Vl :=
 IL rec n b n 0 b2_k5_4 ([])
def Ji (rec:Vl→Option Vl) (n:Nat) (g:Vl):Nat→Int→(List Vl)→Option Vl
 | 0,_,_=>none
 | m+1,b,b2_l8_4 =>
  if decide (b<(g.list.length:Int)) then
   (B1 g.list b).bind fun h =>
   (rec h).bind fun q =>
   if (b2_l8_4.length+1)*88≤140737488355328∧b2_l8_4.length+1≤4611686018427387904 then
    if BM (b+1) then
     (Ji rec n g m) (b+1) (b2_l8_4++([q]))
    else none
   else none
  else
   O1 rec n g b2_l8_4
def Ox (rec:Vl→Option Vl) (n:Nat) (b:Vl):Option Vl :=
 Ji rec n b n 0 ([])
def Bm:Nat→Vl→Option Vl
 | 0,_=>none
 | n+1,b=>Ox (Bm n) n b
def U2 (w0:World) (F:Vl→Option Vl):Prop:=∀ (B:Am) (Rw:Aq) (L:Ar) (b:Vl) (r:Vl),F b=some r→ACalls Tryz.prog w0 56 [.agg (b.cs)] ⟨B,Rw,L⟩ fun x st=>x = .agg (r.cs)∧st=⟨B,Rw,L⟩
theorem ZP (w0:World) (rec:Vl→Option Vl) (ih:U2 w0 rec) (n:Nat):U2 w0 (Ox rec n):=by
 intro B Rw L a0 r h
 rw [Ox] at h
 refine hd [.cell 2 34] Tryz.func56 Tryz.ntmps56 fun M0 W0 z y x u J w hs=>?_
 simp only [AG]
 refine rg [1,2] hs ?_
 refine rg [1,2,3] hs ?_
 have hs:=Ad (Vl.cs_eqs a0) hs
 refine rg [1,2,3] hs ?_
 refine AA (fun e st=>∃ (g:List Vl) (k:Ev.Own),Ck e st B Rw L [(1,true,.box B.length 0),(2,true,.box (B.length+1) 0),(3,true,.box (B.length+2) 0)] [a0.cs,AX,[Ak a0.kind,Ak a0.int,Ak a0.scale,.val (.string a0.text),.list (g.map Bv) k,.list ([]) .full]] [(6,g.length,k)] (O1 rec n a0 g=some r)) ?_ ?_
 ·intro K6 F
  refine rg [1,2,3,12,13,14] hs ?_
  apply Ao
  refine AL (fun m e st=>∃ (v:Int) (p:List Vl) (q:Ev.Own),Ck e st B Rw L [(1,true,.box B.length 0),(2,true,.box (B.length+1) 0),(3,true,.box (B.length+2) 0),(12,true,.list (a0.list.map Bv) .none),(13,true,Ak (a0.list.length:Int)),(14,true,Ak v)] [a0.cs,AX,[Ak a0.kind,Ak a0.int,Ak a0.scale,.val (.string a0.text),.list (p.map Bv) q,.list ([]) .full]] [(6,p.length,q)] (Ji rec n a0 m v p=some r)) n ⟨0,([]),.full,([]),Rw,ef hs,ef hs,Owns.of_eq ((w).full 6 0) Kr,h⟩ ?_
  rintro ml8 e st ⟨v,p,q,Xl8,Rl8,rfl,rfl,w,h⟩ Ul8 Vl8
  cases ml8 with
  | zero=>cases h
  | succ ml8 =>
  rw [Ji] at h
  exact go (tg (a:=([1,2,3,12,13,14,15],([1,2,3,12,13,14],[1,2,3,5,12,13,14],[5,1,2,3,12,13,14],[1,2,3,12,13,14],()),[1,2,3],()))) h hs z y x u w (q2 (ae LS HF) ih) (q2 F (fun e s=>Vl8 ml8 e s (Nat.lt_succ_self _)))
 ·clear h;rintro e st ⟨g,k,Xk5,Rk5,rfl,rfl,w,h⟩
  rw [O1] at h
  have E:=w.unders
  simp only [List.mem_cons,List.not_mem_nil,or_false,forall_eq_or_imp,forall_eq] at E
  refine td z y x u w ?_
  refine AA (fun e st=>∃ (j:List Vl) (i:List (ByteArray × Vl)) (l:Ev.Own) (o:Ev.Own),Ck e st B Rw L [(2,true,.box (B.length+1) 0),(3,true,.box (B.length+2) 0)] [a0.cs,AX,[Ak a0.kind,Ak a0.int,Ak a0.scale,.val (.string a0.text),.list (j.map Bv) l,.list (i.map BV) o]] [(6,j.length,l),(7,i.length,o)] (NQ rec n a0 j i=some r)) ?_ ?_
  ·intro K23 C
   refine rg [2,3,27,28,29] hs ?_
   apply Ao
   refine AL (fun m e st=>∃ (t:Int) (c:List Vl) (b:List (ByteArray × Vl)) (d:Ev.Own) (f:Ev.Own),Ck e st B Rw L [(2,true,.box (B.length+1) 0),(3,true,.box (B.length+2) 0),(27,true,.list (a0.fields.map BV) .none),(28,true,Ak (a0.fields.length:Int)),(29,true,Ak t)] [a0.cs,AX,[Ak a0.kind,Ak a0.int,Ak a0.scale,.val (.string a0.text),.list (c.map Bv) d,.list (b.map BV) f]] [(6,c.length,d),(7,b.length,f)] (IL rec n a0 m t c b=some r)) n ⟨0,g,([]),k,.full,([]),Rk5,ef hs,ef hs,Owns.of_eq (((w).full 7 0).swap (List.Perm.swap _ _ _)) Kr,h⟩ ?_
   rintro ml25 e st ⟨t,c,b,d,f,Xl25,Rl25,rfl,rfl,w,h⟩ Ul25 Vl25
   cases ml25 with
   | zero=>cases h
   | succ ml25 =>
   rw [IL] at h
   have E:=w.unders
   simp only [List.mem_cons,List.not_mem_nil,or_false,forall_eq_or_imp,forall_eq] at E
   obtain ⟨G,H⟩:=E
   refine td z y x u w ?_
   refine rg [2,3,27,28,29,30] hs ?_
   apply An;intro K27 D
   refine BN h hs ?_ ?_<;>intro hs h
   rotate_left
   ·refine sx [2,3] hs C ?_
    exact ⟨c,b,d,f,([]),Rl25,ef hs,ef hs,Owns.of_eq (((w).swap (List.Perm.swap _ _ _)).swap (List.Perm.swap _ _ _)) Kr,h⟩
   exact go (tg (a:=([2,3,27,28,29],[2,3,7,27,28,29],[9,2,3,27,28,29],[2,3,27,28,29],()))) h hs z y x u w (q2 (ae Nb IB) ih) (q2 D (fun e s=>Vl25 ml25 e s (Nat.lt_succ_self _)))
  ·clear h;rintro e st ⟨j,i,l,o,Xk22,Rk22,rfl,rfl,w,h⟩
   rw [NQ] at h
   exact go (tg (a:=([2],()))) h hs z y x u w trivial trivial
theorem DO (w0:World):∀ n:Nat,U2 w0 (Bm n)
 | 0=>fun _ _ _ _ _ h=>(nomatch h)
 | n+1=>ZP w0 (Bm n) (DO w0 n) n
def Je (rec:Ty→Option Ty) (n:Nat) (g:Int × ByteArray × Int × Ty × List Vl) (h:Ty) (b:List Vl):Option ((Int × ByteArray × Int × Ty × List Vl)) :=
 some ((g.1,g.2.1,g.2.2.1,h,b))
def EB (rec:Ty→Option Ty) (n:Nat) (h:Int × ByteArray × Int × Ty × List Vl) (y3:Ty):Nat→(List Vl)→Int→Option ((Int × ByteArray × Int × Ty × List Vl))
 | 0,_,_=>none
 | m+1,g,b =>
  if decide (b<(h.2.2.2.2.length:Int)) then
   (B1 h.2.2.2.2 b).bind fun y =>
   (Bm n y).bind fun q =>
   if (g.length+1)*88≤140737488355328∧g.length+1≤4611686018427387904 then
    if BM (b+1) then
     (EB rec n h y3 m) (g++([q])) (b+1)
    else none
   else none
  else
   Je rec n h y3 g
def EL (rec:Ty→Option Ty) (n:Nat) (b:Int × ByteArray × Int × Ty × List Vl):Option ((Int × ByteArray × Int × Ty × List Vl)) :=
 (rec b.2.2.2.1).bind fun g =>
 if 0≤(b.2.2.2.2.length:Int)∧(b.2.2.2.2.length:Int)*88≤140737488355328∧(b.2.2.2.2.length:Int)≤4611686018427387904 then
  EB rec n b g n ([]) 0
 else none
theorem P3 (w0:World) (rec:Ty→Option Ty) (ih:∀ (B:Am) (Rw:Aq) (L:Ar) (a0:Ty) (r:Ty) (h:rec a0=some r),ACalls Tryz.prog w0 321 [.agg (a0.cs)] ⟨B,Rw,L⟩ fun x st=>x = .agg (r.cs)∧st=⟨B,Rw,L⟩) (n:Nat) (B:Am) (Rw:Aq) (L:Ar) (a0:Int × ByteArray × Int × Ty × List Vl) (r:(Int × ByteArray × Int × Ty × List Vl)) (h:EL rec n a0=some r) :
  ACalls Tryz.prog w0 278 [.agg (Ak a0.1::(.val (.string a0.2.1)::(Ak a0.2.2.1::((a0.2.2.2.1.cs)++([.list (a0.2.2.2.2.map Bv) .none])))))] ⟨B,Rw,L⟩ fun x st=>x = .agg (Ak r.1::(.val (.string r.2.1)::(Ak r.2.2.1::((r.2.2.2.1.cs)++([.list (r.2.2.2.2.map Bv) .none])))))∧st=⟨B,Rw,L⟩:=by
 rw [EL] at h
 refine hd [.cell 2 95] Tryz.func278 Tryz.ntmps278 fun M0 W0 u o l j w k hs=>?_
 simp only [AG]
 refine rg [1,2] hs ?_
 obtain ⟨i,q,h⟩:=bind_some h
 have hs:=Ad (Ty.cs_eqs a0.2.2.2.1) hs
 have hs:=Ad (Ty.cs_eqs i) hs
 refine rc 2 [1,2] hs ?_;intro K2 p
 refine As _ (ih _ _ _ a0.2.2.2.1 _ q) (hv hs) ?_
 refine ne hs p ?_
 clear p
 obtain ⟨v,h⟩:=Au h
 have k:=k.make 6 0
 refine rg [1,2,3] hs ?_
 refine AA (fun e st=>∃ (f:List Vl) (g:Ev.Own),Ck e st B Rw L [(1,true,.box B.length 0),(2,true,.box (B.length+1) 0),(3,true,.list (f.map Bv) g)] [[Ak a0.1,.val (.string a0.2.1),Ak a0.2.2.1,Ak i.kind,Ak i.min,Ak i.max,Ak i.scale,.list (i.words.map V6) .none,.list (i.elem.map Ny) .none,.list (i.fields.map ET) .none,.list (a0.2.2.2.2.map Bv) .none],[Ak 0,.val (.string (⟨#[]⟩:ByteArray)),Ak 0,Ak 0,Ak 0,Ak 0,Ak 0,.list ([]) .full,.list ([]) .full,.list ([]) .full,.list ([]) .full]] [(6,f.length,g)] (Je rec n a0 i f=some r)) ?_ ?_
 ·intro K9 t
  refine rg [1,2,3,15,16,17] hs ?_
  apply Ao
  refine AL (fun m e st=>∃ (b:List Vl) (c:Int) (d:Ev.Own),Ck e st B Rw L [(1,true,.box B.length 0),(2,true,.box (B.length+1) 0),(3,true,.list (b.map Bv) d),(15,true,.list (a0.2.2.2.2.map Bv) .none),(16,true,Ak (a0.2.2.2.2.length:Int)),(17,true,Ak c)] [[Ak a0.1,.val (.string a0.2.1),Ak a0.2.2.1,Ak i.kind,Ak i.min,Ak i.max,Ak i.scale,.list (i.words.map V6) .none,.list (i.elem.map Ny) .none,.list (i.fields.map ET) .none,.list (a0.2.2.2.2.map Bv) .none],[Ak 0,.val (.string (⟨#[]⟩:ByteArray)),Ak 0,Ak 0,Ak 0,Ak 0,Ak 0,.list ([]) .full,.list ([]) .full,.list ([]) .full,.list ([]) .full]] [(6,b.length,d)] (EB rec n a0 i m b c=some r)) n ⟨([]),0,((.row Rw.length)),([]),((Rw++[.grow 0 6])),ef hs,ef hs,Owns.of_eq (k) Kr,h⟩ ?_
  rintro ml11 e st ⟨b,c,d,Xl11,Rl11,rfl,rfl,k,h⟩ Ul11 Vl11
  cases ml11 with
  | zero=>cases h
  | succ ml11 =>
  rw [EB] at h
  exact go (tg (a:=([1,2,3,15,16,17,18],([1,2,3,15,16,17],[1,2,3,5,15,16,17],[1,2,3,15,16,17],[1,2,3,15,16,17],()),[1,2,3],()))) h hs u o l j k (q2 (ae LS HF) (DO w0 n)) (q2 t (fun e s=>Vl11 ml11 e s (Nat.lt_succ_self _)))
 ·clear h;rintro e st ⟨f,g,Xk8,Rk8,rfl,rfl,k,h⟩
  rw [Je] at h
  exact go (tg (a:=([1,2],[2],()))) h hs u o l j k trivial trivial
def NW (rec:Ty→Option Ty) (n:Nat) (h:Ty) (g:List Ty) (b:List (Int × ByteArray × Int × Ty × List Vl)):Option Ty :=
 if h.words.length*16≤140737488355328 then
  some (Ty.mk h.kind h.min h.max h.scale h.words g b)
 else none
def Ip (rec:Ty→Option Ty) (n:Nat) (q:Ty):Nat→(List Ty)→(List (Int × ByteArray × Int × Ty × List Vl))→Int→Option Ty
 | 0,_,_,_=>none
 | m+1,h,g,b =>
  if decide (b<(q.fields.length:Int)) then
   (B1 q.fields b).bind fun y =>
   (EL rec n y).bind fun y36 =>
   if (g.length+1)*160≤140737488355328∧g.length+1≤4611686018427387904 then
    if BM (b+1) then
     (Ip rec n q m) h (g++([y36])) (b+1)
    else none
   else none
  else
   NW rec n q h g
def O2 (rec:Ty→Option Ty) (n:Nat) (g:Ty) (b:List Ty):Option Ty :=
 if 0≤(g.fields.length:Int)∧(g.fields.length:Int)*160≤140737488355328∧(g.fields.length:Int)≤4611686018427387904 then
  Ip rec n g n b ([]) 0
 else none
def Jv (rec:Ty→Option Ty) (n:Nat) (h:Ty):Nat→(List Ty)→Int→Option Ty
 | 0,_,_=>none
 | m+1,g,b =>
  if decide (b<(h.elem.length:Int)) then
   (B1 h.elem b).bind fun y =>
   (rec y).bind fun q =>
   if (g.length+1)*104≤140737488355328∧g.length+1≤4611686018427387904 then
    if BM (b+1) then
     (Jv rec n h m) (g++([q])) (b+1)
    else none
   else none
  else
   O2 rec n h g
def Rj (rec:Ty→Option Ty) (n:Nat) (b:Ty):Option Ty :=
 if 0≤(b.elem.length:Int)∧(b.elem.length:Int)*104≤140737488355328∧(b.elem.length:Int)≤4611686018427387904 then
  Jv rec n b n ([]) 0
 else none
def IQ:Nat→Ty→Option Ty
 | 0,_=>none
 | n+1,b=>Rj (IQ n) n b
def U9 (w0:World) (F:Ty→Option Ty):Prop:=∀ (B:Am) (Rw:Aq) (L:Ar) (b:Ty) (r:Ty),F b=some r→ACalls Tryz.prog w0 321 [.agg (b.cs)] ⟨B,Rw,L⟩ fun x st=>x = .agg (r.cs)∧st=⟨B,Rw,L⟩
theorem Zab (w0:World) (rec:Ty→Option Ty) (ih:U9 w0 rec) (n:Nat):U9 w0 (Rj rec n):=by
 intro B Rw L a0 r h
 rw [Rj] at h
 refine hd [.cell 2 26] Tryz.func321 Tryz.ntmps321 fun M0 W0 z y x o N w hs=>?_
 simp only [AG]
 refine rg [1,2] hs ?_
 obtain ⟨K,h⟩:=Au h
 have w:=w.make 7 0
 refine rg [1,2,3] hs ?_
 refine AA (fun e st=>∃ (l:List Ty) (g:Ev.Own),Ck e st B Rw L [(1,true,.box B.length 0),(2,true,.box (B.length+1) 0),(3,true,.list (l.map Ny) g)] [a0.cs,[Ak 0,Ak 0,Ak 0,Ak 0,.list ([]) .full,.list ([]) .full,.list ([]) .full]] [(7,l.length,g)] (O2 rec n a0 l=some r)) ?_ ?_
 ·intro K7 F
  refine rg [1,2,3,14,15,16] hs ?_
  apply Ao
  refine AL (fun m e st=>∃ (v:List Ty) (t:Int) (u:Ev.Own),Ck e st B Rw L [(1,true,.box B.length 0),(2,true,.box (B.length+1) 0),(3,true,.list (v.map Ny) u),(14,true,.list (a0.elem.map Ny) .none),(15,true,Ak (a0.elem.length:Int)),(16,true,Ak t)] [a0.cs,[Ak 0,Ak 0,Ak 0,Ak 0,.list ([]) .full,.list ([]) .full,.list ([]) .full]] [(7,v.length,u)] (Jv rec n a0 m v t=some r)) n ⟨([]),0,((.row Rw.length)),([]),((Rw++[.grow 0 7])),ef hs,ef hs,Owns.of_eq (w) Kr,h⟩ ?_
  rintro ml9 e st ⟨v,t,u,Xl9,Rl9,rfl,rfl,w,h⟩ Ul9 Vl9
  cases ml9 with
  | zero=>cases h
  | succ ml9 =>
  rw [Jv] at h
  exact go (tg (a:=([1,2,3,14,15,16,17],([1,2,3,14,15,16],[1,2,3,5,14,15,16],[1,2,3,14,15,16],[1,2,3,14,15,16],()),[1,2,3],()))) h hs z y x o w (q2 (ae ZfN ZaW) ih) (q2 F (fun e s=>Vl9 ml9 e s (Nat.lt_succ_self _)))
 ·clear h;rintro e st ⟨l,g,Xk6,Rk6,rfl,rfl,w,h⟩
  rw [O2] at h
  have E:=w.unders
  simp only [List.mem_cons,List.not_mem_nil,or_false,forall_eq_or_imp,forall_eq] at E
  refine td z y x o w ?_
  obtain ⟨G,h⟩:=Au h
  have w:=w.make 11 0
  refine rg [1,2,3,6] hs ?_
  refine AA (fun e st=>∃ (j:List Ty) (i:List (Int × ByteArray × Int × Ty × List Vl)) (p:Ev.Own) (k:Ev.Own),Ck e st B Rw L [(1,true,.box B.length 0),(2,true,.box (B.length+1) 0),(3,true,.list (j.map Ny) p),(6,true,.list (i.map ET) k)] [a0.cs,[Ak 0,Ak 0,Ak 0,Ak 0,.list ([]) .full,.list ([]) .full,.list ([]) .full]] [(7,j.length,p),(11,i.length,k)] (NW rec n a0 j i=some r)) ?_ ?_
  ·intro K27 D
   refine rg [1,2,3,6,31,32,33] hs ?_
   apply Ao
   refine AL (fun m e st=>∃ (d:List Ty) (f:List (Int × ByteArray × Int × Ty × List Vl)) (q:Int) (b:Ev.Own) (c:Ev.Own),Ck e st B Rw L [(1,true,.box B.length 0),(2,true,.box (B.length+1) 0),(3,true,.list (d.map Ny) b),(6,true,.list (f.map ET) c),(31,true,.list (a0.fields.map ET) .none),(32,true,Ak (a0.fields.length:Int)),(33,true,Ak q)] [a0.cs,[Ak 0,Ak 0,Ak 0,Ak 0,.list ([]) .full,.list ([]) .full,.list ([]) .full]] [(7,d.length,b),(11,f.length,c)] (Ip rec n a0 m d f q=some r)) n ⟨l,([]),0,g,((.row Rk6.length)),([]),((Rk6++[.grow 0 11])),ef hs,ef hs,Owns.of_eq ((w).swap (List.Perm.swap _ _ _)) Kr,h⟩ ?_
   rintro ml29 e st ⟨d,f,q,b,c,Xl29,Rl29,rfl,rfl,w,h⟩ Ul29 Vl29
   cases ml29 with
   | zero=>cases h
   | succ ml29 =>
   rw [Ip] at h
   have E:=w.unders
   simp only [List.mem_cons,List.not_mem_nil,or_false,forall_eq_or_imp,forall_eq] at E
   obtain ⟨H,J⟩:=E
   refine td z y x o w ?_
   refine rg [1,2,3,6,31,32,33,34] hs ?_
   apply An;intro K31 C
   refine BN h hs ?_ ?_<;>intro hs h
   rotate_left
   ·refine sx [1,2,3,6] hs D ?_
    exact ⟨d,f,b,c,([]),Rl29,ef hs,ef hs,Owns.of_eq (((w).swap (List.Perm.swap _ _ _)).swap (List.Perm.swap _ _ _)) Kr,h⟩
   exact go (tg (a:=([1,2,3,6,31,32,33],[1,2,3,6,8,31,32,33],[1,2,3,6,31,32,33],[1,2,3,6,31,32,33],()))) h hs z y x o w (q2 (ae Zj8 ZfE) (P3 w0 rec ih n)) (q2 C (fun e s=>Vl29 ml29 e s (Nat.lt_succ_self _)))
  ·clear h;rintro e st ⟨j,i,p,k,Xk26,Rk26,rfl,rfl,w,h⟩
   rw [NW] at h
   exact go (tg (a:=([1,2],[2],()))) h (Ad (Ty.cs_eqs a0) hs) z y x o w (q1 (R7 w0)) trivial
theorem WC (w0:World):∀ n:Nat,U9 w0 (IQ n)
 | 0=>fun _ _ _ _ _ h=>(nomatch h)
 | n+1=>Zab w0 (IQ n) (WC w0 n) n
def FY (n:Nat)  : Option Int :=
 some ((-1))
def Bc (n:Nat) (g:List (Int × ByteArray × Int × Ty × List Vl)) (y:(Int × ByteArray × Int × Ty × List Vl)→Option Bool):Nat→Int→Option Int
 | 0,_=>none
 | m+1,b =>
  if decide (b<(g.length:Int)) then
   (B1 g b).bind fun h =>
   (y h).bind fun q =>
   if q then
    some (b)
   else
    if BM (b+1) then
     (Bc n g y m) (b+1)
    else none
  else
   FY n 
def Bh (n:Nat) (g:List (Int × ByteArray × Int × Ty × List Vl)) (b:(Int × ByteArray × Int × Ty × List Vl)→Option Bool):Option Int :=
 Bc n g b n 0
theorem Ez (w0:World) (n:Nat) (B:Am) (Rw:Aq) (L:Ar) (a0:List (Int × ByteArray × Int × Ty × List Vl)) (fa1:FuncId) (ca1:List AV) (a1:(Int × ByteArray × Int × Ty × List Vl)→Option Bool) (ha1:∀ (x0:Int × ByteArray × Int × Ty × List Vl) r,a1 x0=some r→∀ B' rows,B <+: B'→Rw <+: rows→ACalls Tryz.prog w0 fa1 ([.agg (Ak x0.1::(.val (.string x0.2.1)::(Ak x0.2.2.1::((x0.2.2.2.1.cs)++([.list (x0.2.2.2.2.map Bv) .none])))))]++ca1) ⟨B',rows,L⟩ fun v s=>v = .val (.bool r)∧s=⟨B',rows,L⟩) (r:Int) (h:Bh n a0 a1=some r) :
  ACalls Tryz.prog w0 191 [.list (a0.map ET) .none,.clo fa1 ca1] ⟨B,Rw,L⟩ fun x st=>x=Ak r∧st=⟨B,Rw,L⟩:=by
 rw [Bh] at h
 refine hd [.tmp 4] Tryz.func191 Tryz.ntmps191 fun M0 W0 k g i c l f hs=>?_
 simp only [AG]
 have b:=CV (l (.clo fa1 ca1) (by simp))
 refine rg [0,1] hs ?_
 refine AA (fun e st=>Ck e st B Rw L [] [] [] (FY n  = some r)) ?_ ?_
 ·intro K4 j
  refine rg [0,1,7,8] hs ?_
  apply Ao
  refine AL (fun m e st=>∃ (d:Int),Ck e st B Rw L [(0,true,.list (a0.map ET) .none),(1,true,.clo fa1 ca1),(7,true,Ak (a0.length:Int)),(8,true,Ak d)] [] [] (Bc n a0 a1 m d=some r)) n ⟨0,([]),Rw,ef hs,ef hs,f,h⟩ ?_
  rintro ml6 e st ⟨d,Xl6,Rl6,rfl,rfl,f,h⟩ Ul6 Vl6
  cases ml6 with
  | zero=>cases h
  | succ ml6 =>
  rw [Bc] at h
  refine AY k g i rfl c f (Kq b f) (Kq b f) ?_
  exact go (tg (a:=([0,1,7,8,9],([0,1,7,8],[0,1,5,7,8],[0,1,5,7,8,16],([4],()),[0,1,7,8],[0,1,7,8],()),[],()))) h hs k g i c f (q1 ha1) (q2 j (fun e s=>Vl6 ml6 e s (Nat.lt_succ_self _)))
 ·clear h;rintro e st ⟨Xk3,Rk3,rfl,rfl,f,h⟩
  rw [FY] at h
  refine AY k g i rfl c f (Kq b f) (Kq b f) ?_
  refine rg [4] hs ?_
  exact rt h hs c f
def Lm (n:Nat) (b:Ty) (y:(Int × ByteArray × Int × Ty × List Vl)→Option Bool):Option ((Int × ByteArray × Int × Ty × List Vl) × Bool) :=
 if (!(decide (b.kind=9)))&&(!(decide (b.kind=10))) then
  some (((0,(⟨#[]⟩:ByteArray),0,Ty.mk 0 0 0 0 ([]) ([]) ([]),[]),false))
 else
  (Bh n b.fields y).bind fun q =>
  if decide (q<0) then
   some (((0,(⟨#[]⟩:ByteArray),0,Ty.mk 0 0 0 0 ([]) ([]) ([]),[]),false))
  else
   (B1 b.fields q).bind fun g =>
   (EL (IQ n) n g).bind fun h =>
   some ((h,true))
theorem Zer (w0:World) (n:Nat) (B:Am) (Rw:Aq) (L:Ar) (a0:Ty) (fa1:FuncId) (ca1:List AV) (a1:(Int × ByteArray × Int × Ty × List Vl)→Option Bool) (ha1:∀ (x0:Int × ByteArray × Int × Ty × List Vl) r,a1 x0=some r→∀ B' rows,B <+: B'→Rw <+: rows→ACalls Tryz.prog w0 fa1 ([.agg (Ak x0.1::(.val (.string x0.2.1)::(Ak x0.2.2.1::((x0.2.2.2.1.cs)++([.list (x0.2.2.2.2.map Bv) .none])))))]++ca1) ⟨B',rows,L⟩ fun v s=>v = .val (.bool r)∧s=⟨B',rows,L⟩) (r:(Int × ByteArray × Int × Ty × List Vl) × Bool) (h:Lm n a0 a1=some r) :
  ACalls Tryz.prog w0 213 [.agg (a0.cs),.clo fa1 ca1] ⟨B,Rw,L⟩ fun x st=>x = .tup [.agg (Ak r.1.1::(.val (.string r.1.2.1)::(Ak r.1.2.2.1::((r.1.2.2.2.1.cs)++([.list (r.1.2.2.2.2.map Bv) .none]))))),.val (.bool r.2)]∧st=⟨B,Rw,L⟩:=by
 rw [Lm] at h
 refine hd [.cell 4 95,.tmp 5] Tryz.func213 Tryz.ntmps213 fun M0 W0 m i g b o k hs=>?_
 simp only [AG]
 have e:=CV (o (.clo fa1 ca1) (by simp))
 refine rg [1,2,4] hs ?_
 apply An;intro K2 d
 refine rg [1,2,4,14] hs ?_
 refine BN h hs ?_ ?_<;>intro hs h
 ·refine rg [4,5] hs ?_
  exact rt h hs b k
 refine sk [1,2,4] hs d ?_
 clear d
 obtain ⟨q,l,h⟩:=bind_some h
 refine rc 2 [2,4,6] hs ?_;intro K6 j
 refine As _ (Ez w0 n _ _ _ a0.fields fa1 ca1 a1 (fun x0 r p f c q1 q2=>ha1 x0 r p f c (List.IsPrefix.trans px q1) (k.pre.trans q2)) _ l) (hv hs) ?_
 exact go (tg (a:=([2,4,6,21],([4,5],()),[2,4,6],[4,5],()))) h hs m i g b k (q1 (P3 w0 (IQ n) (WC w0 n) n)) (q1 j)
def KL (n:Nat) (q:Ty) (g:ByteArray):Option ((Int × ByteArray × Int × Ty × List Vl) × Bool) :=
 (Lm n q (fun (h:Int × ByteArray × Int × Ty × List Vl)=>some (Lu h g))).bind fun b =>
 some ((b.1,b.2))
theorem SX (w0:World) (n:Nat) (B:Am) (Rw:Aq) (L:Ar) (a0:Ty) (a1:ByteArray) (r:(Int × ByteArray × Int × Ty × List Vl) × Bool) (h:KL n a0 a1=some r) :
  ACalls Tryz.prog w0 144 [.agg (a0.cs),.val (.string a1)] ⟨B,Rw,L⟩ fun x st=>x = .tup [.agg (Ak r.1.1::(.val (.string r.1.2.1)::(Ak r.1.2.2.1::((r.1.2.2.2.1.cs)++([.list (r.1.2.2.2.2.map Bv) .none]))))),.val (.bool r.2)]∧st=⟨B,Rw,L⟩:=by
 rw [KL] at h
 refine hd [.cell 4 95,.tmp 5] Tryz.func144 Tryz.ntmps144 fun M0 W0 k f e a l g hs=>?_
 simp only [AG]
 refine rg [2,3,4] hs ?_
 obtain ⟨i,hy3,h⟩:=bind_some h
 refine rc 2 [4,5] hs ?_;intro K2 b
 refine As _ (Zer w0 n _ _ _ a0 214 [.box (B.length+1) 0] (fun (x0:Int × ByteArray × Int × Ty × List Vl)=>some (Lu x0 a1)) (fun x0 r hx j c hB' d=>by cases hx;exact Yj w0 _ _ _ x0 _ a1 (ED hB' ev)) _ hy3) (hv hs) ?_
 refine ne hs b ?_
 clear b
 exact rt h hs a g
end Go.Proofs.YtmcnjijeocmkgaaGreatDoor
namespace Go.Ev
open Go Go.RowKit
def Mem.start:Mem:=⟨0,0,fun _=>0,fun _=>0,fun _=>0,fun _=>0,fun _=>0,fun _=>0,0,fun _=>0⟩
theorem Zej (W:World):RelSt W Mem.start ⟨[],[],[]⟩ W where
 below := .refl _ _
 N:=rfl
 NR:=rfl
 top:=fun _ _=>rfl
 inj:=fun _ _ h=>absurd h (Nat.not_lt_zero _)
 box:=fun _ _ h=>by simp at h
 row:=fun _ _ h=>by simp at h
 rowinj:=fun _ _ h=>absurd h (Nat.not_lt_zero _)
 loop:=⟨rfl,fun _ _ h=>absurd h (Nat.not_lt_zero _),fun _ _ h=>by simp at h⟩
theorem VW {P:Program} {f:FuncId} {W:World} {vals:Array Value} {args:List AV} {r:Value} (h:ACalls P W f args ⟨[],[],[]⟩ fun v st=>v = .val r∧st=⟨[],[],[]⟩) (hr:RowR W Mem.start W vals args) :
  Calls P f vals W fun e w'=>e = .returned r∧Below W.heap.size W w' :=
 (h.2 Mem.start W vals (Zej W) hr).mono fun en w' ⟨v,M',a,st,h1,⟨h2,_⟩,_,h4,h5⟩=>by
  subst h2
  have:=h5.val_inv.1
  subst this
  exact ⟨h1,h4.below⟩
theorem Zf6 {W:World} {v:Value} {x:AV} (h:R W Mem.start W v x):RowR W Mem.start W #[v] [x]:=⟨rfl,fun i b a=>by
 obtain rfl:i=0:=by simp at a;exact a
 exact h⟩
end Go.Ev
namespace Go.Proofs.YtmcnjijeocmkgaaGreatDoor
open Go Go.Shelf Go.ChangeShapes Go.WideShapes Go.ChangeAt Go.RowKit Go.Lib Go.Ev
open Go.ChangeMaps (open_string shut_string)
set_option maxRecDepth 100000
theorem Zi2:ownKnob Tryz.prog.godebug=none:=by kernel_rfl
def Zk1:DataW Unit→List Value
 | .lit (.int k z)=>[.int k z]
 | .agg l=>l.flatMap fun | .lit (.int k z)=>[.int k z] | _=>[]
 | _=>[]
def Zlb:DataW Unit→List Value
 | .agg l=>l.flatMap Zk1
 | _=>[]
noncomputable def TV (os:Os):World :=
 let w0:=World.holding Tryz.prog os ⟨#[],#[],[]⟩
 let put (h:Array Obj) (g:Nat) (d:DataW Unit):Array Obj:=h.modify g fun
  | .cells _ t frozen => .cells (Zlb d).toArray t frozen
  | o=>o
 { w0 with heap:=put (put (put (put (put w0.heap 2 Rows.laid_unicode_utf8_first) 3 Rows.laid_unicode_utf8_acceptRanges) 4 Rows.laid_internal_strconv_uint64pow10) 7 Rows.laid_math_bits_deBruijn32tab) 8 Rows.laid_math_bits_deBruijn64tab }
theorem Zae (os:Os) (args:Array Value):laidMet Tryz.prog Rows.evolveWitnessRow.laid ((TV os).forCall (fun _ _=>0) ⟨#[],args,[]⟩).memory :=
 (LaidIn.of_run (l:=Rows.evolveWitnessRow.laid) [7,8,4,3,2] 8 (by kernel_rfl) (by kernel_rfl) (by kernel_rfl) (by kernel_rfl)).met
theorem WB {W:World} (h:Lib.VarReads Tryz.prog W Rk Rows.laid_internal_strconv_uint64pow10):Pow10 W:=by
 obtain ⟨g,t,cs,a,p,f,c,d,b⟩:=h
 obtain rfl:=Option.some.inj ((show Tryz.prog.globalNamed Rk=some 4 by kernel_rfl).symm.trans f)
 obtain rfl:=Option.some.inj ((show (Tryz.prog.globals[4]?).map (·.type)=some 339 by kernel_rfl).symm.trans c)
 have e:(Rows.laid_internal_strconv_uint64pow10:DataW Unit)=Lib.tabData .u64 Lib.pow10Tab:=by kernel_rfl
 rw [e] at b
 unfold Pow10 Lib.TabIs
 rw [d,←Lib.cells_of_tab (n:=20) (k := .u64) (zs:=Lib.pow10Tab) Tryz.underlying339 Tryz.underlying301 (by kernel_rfl) (by kernel_rfl) b]
theorem Zgn {W:World} (hL:laidMet Tryz.prog Rows.evolveWitnessRow.laid W):Lib.Utf8Tabs 2 3 W∧Pow10 W :=
 ⟨utf8Tabs_of_readsT (U8Types.of196 Tryz.laysValid) ⟨by kernel_rfl,by kernel_rfl,by kernel_rfl,by kernel_rfl,by kernel_rfl,by kernel_rfl,by kernel_rfl⟩ (Lib.laidMet.reads hL (.tail _ (.tail _ (.tail _ (.tail _ (.head _)))))) (Lib.laidMet.reads hL (.tail _ (.tail _ (.tail _ (.head _))))),
  WB (Lib.laidMet.reads hL (.tail _ (.tail _ (.head _))))⟩
set_option maxRecDepth 100000
mutual
def Vl.wf:Vl→Prop
 | .mk k i s t l f=>BM k∧BM i∧BM s∧t.size≤maxLen∧l.length≤maxLen∧f.length≤maxLen∧Zfg l∧ZgY f
def Zfg:List Vl→Prop
 | []=>True
 | v::r=>v.wf∧Zfg r
def ZgY:List (ByteArray × Vl)→Prop
 | []=>True
 | (n,v)::r=>n.size≤maxLen∧v.wf∧ZgY r
end
theorem ZbZ:∀ l,Zfg l↔∀ v∈l,v.wf
 | []=>by simp [Zfg]
 | v::r=>by simp [Zfg,ZbZ r]
theorem Zb4:∀ l,ZgY l↔∀ p∈l,p.1.size≤maxLen∧p.2.wf
 | []=>by simp [ZgY]
 | (n,v)::r=>by simp [ZgY,Zb4 r,and_assoc]
mutual
def Ty.wf:Ty→Prop
 | .mk k lo hi s w e f=>BM k∧BM lo∧BM hi∧BM s∧(∀ x∈w,x.size≤maxLen)∧w.length≤maxLen∧e.length≤maxLen∧f.length≤maxLen∧Zfq e∧Zbe f
def Zfq:List Ty→Prop
 | []=>True
 | v::r=>v.wf∧Zfq r
def Zbe:List (Int × ByteArray × Int × Ty × List Vl)→Prop
 | []=>True
 | (n,s,d,t,l)::r=>(BM n∧s.size≤maxLen∧BM d∧t.wf∧l.length≤maxLen∧∀ v∈l,v.wf)∧Zbe r
end
theorem Zbo:∀ l,Zfq l↔∀ v∈l,v.wf
 | []=>by simp [Zfq]
 | v::r=>by simp [Zfq,Zbo r]
theorem Yy:∀ l,Zbe l↔∀ p∈l,BM p.1∧p.2.1.size≤maxLen∧BM p.2.2.1∧p.2.2.2.1.wf∧p.2.2.2.2.length≤maxLen∧∀ v∈p.2.2.2.2,v.wf
 | []=>by simp [Zbe]
 | (n,s,d,t,l)::r=>by simp [Zbe,Yy r]
mutual
def Vl.bulk:Vl→Nat
 | .mk _ _ _ t l f=>1+t.size+Jl l+Qo f
def Jl:List Vl→Nat
 | []=>0
 | v::r=>v.bulk+Jl r
def Qo:List (ByteArray × Vl)→Nat
 | []=>0
 | (n,v)::r=>n.size+v.bulk+Qo r
end
def PX:List ByteArray→Nat
 | []=>0
 | w::r=>w.size+1+PX r
mutual
def Ty.bulk:Ty→Nat
 | .mk _ _ _ _ w e f=>1+PX w+Qv e+ND f
def Qv:List Ty→Nat
 | []=>0
 | v::r=>v.bulk+Qv r
def ND:List (Int × ByteArray × Int × Ty × List Vl)→Nat
 | []=>0
 | (_,n,_,t,l)::r=>n.size+t.bulk+Jl l+ND r
end
theorem SK:∀ l,Jl l=(l.map Vl.bulk).sum
 | []=>rfl
 | v::r=>by rw [Jl,SK r];rfl
theorem XQ:∀ l,Qo l=(l.map fun p=>p.1.size+p.2.bulk).sum
 | []=>rfl
 | (n,v)::r=>by rw [Qo,XQ r];rfl
theorem WT:∀ l,PX l=(l.map fun w=>w.size+1).sum
 | []=>rfl
 | v::r=>by rw [PX,WT r];rfl
theorem WY:∀ l,Qv l=(l.map Ty.bulk).sum
 | []=>rfl
 | v::r=>by rw [Qv,WY r];rfl
theorem Ve:∀ l,ND l=(l.map fun p=>p.2.1.size+p.2.2.2.1.bulk+Jl p.2.2.2.2).sum
 | []=>rfl
 | (a,n,b,t,l)::r=>by rw [ND,Ve r];rfl
def Part.wf (p:Part):Prop:=BM p.kind∧BM p.index∧p.name.size≤maxLen
def Sch.wf (s:Sch):Prop:=s.name.size≤maxLen∧BM s.version∧s.type.wf
section
variable {H:Type} {enc:TypeId × Value→H} {W:World}
def RC (W:World) (cs:List Value) (xs:List AV):Prop:=cs.length=xs.length∧∀ i (h1:i<cs.length) (h2:i<xs.length),R W Mem.start W cs[i] xs[i]
theorem RC.nil:RC W [] []:=⟨rfl,fun i a=>absurd a (by simp)⟩
theorem RC.cons {v:Value} {x:AV} {cs:List Value} {xs:List AV} (h:R W Mem.start W v x) (k:RC W cs xs):RC W (v::cs) (x::xs):=⟨by simp [k.1],fun i a b=>by
 cases i with
 | zero=>exact h
 | succ i=>simpa using k.2 i (by simpa using a) (by simpa using b)⟩
theorem RC.app {cs ds:List Value} {xs ys:List AV} (h:RC W cs xs) (k:RC W ds ys):RC W (cs++ds) (xs++ys):=by
 refine ⟨by simp [h.1,k.1],fun i a b=>?_⟩
 by_cases c:i<cs.length
 ·rw [List.getElem_append_left c,List.getElem_append_left (h.1▸c)];exact h.2 i c _
 ·rw [List.getElem_append_right (Nat.le_of_not_lt c),List.getElem_append_right (h.1▸Nat.le_of_not_lt c)]
  simp only [h.1]
  exact k.2 _ (by have:=h.1;rw [List.length_append] at a;omega) (by have:=h.1;rw [List.length_append] at b;omega)
theorem RC.agg {cs:List Value} {xs:List AV} (h:RC W cs xs) (h1:∀ x∈xs,x.one=true):R W Mem.start W (.agg cs.toArray) (.agg xs) := .agg (by simpa using h.1) h1 (fun i a b=>by simpa using h.2 i (by simpa using a) b)
noncomputable abbrev Td (enc:TypeId × Value→H) (W:World) (n:Nat) (t:TypeId) (cs:List Value):Option (DataW H × List MemPlace):=DataW.trod enc Tryz.prog W 0 (fun _=>true) true n t cs
theorem UG (d:DataW H):1≤Rows.uptoBulk d:=by
 cases d with
 | lit l=>cases l<;>simp [Rows.uptoBulk]
 | _=>simp [Rows.uptoBulk]
theorem Zj {α:Type} (m:α→Nat):∀ (l:List α) (es:List (DataW H × List MemPlace)),l.length=es.length→(∀ i (h1:i<l.length) (h2:i<es.length),m l[i]≤Rows.uptoBulk es[i].1)→(l.map m).sum≤Rows.uptoBulkAll (es.map (·.1))
 | [],_,_,_=>by simp
 | y::r,[],h,_=>by simp at h
 | y::r,e::es,h,k=>by
  have a:=k 0 (by simp) (by simp)
  have:=Zj m r es (by simpa using h) (fun i h1 h2=>by have:=k (i+1) (by simpa using h1) (by simpa using h2);simpa using this)
  simp only [List.map_cons,List.sum_cons,Rows.uptoBulkAll,List.getElem_cons_zero] at a ⊢
  omega
theorem PY {n:Nat} {cs:List Value} {x:DataW H × List MemPlace} (h:Td enc W n 3 cs=some x):∃ z,BM z∧cs=[.int .i64 z]:=by
 obtain ⟨z,rfl,_,a⟩:=DataW.trod_int Tryz.underlying3 h
 refine ⟨z,?_,rfl⟩
 simp [Lit.wf,IntKind.min,IntKind.max,IntKind.signed,IntKind.bits] at a
 unfold BM
 omega
theorem Z0 {n:Nat} {cs:List Value} {x:DataW H × List MemPlace} (h:Td enc W n 9 cs=some x):∃ s:ByteArray,s.size≤maxLen∧cs=[.string s]∧s.size+1≤Rows.uptoBulk x.1:=by
 obtain ⟨s,rfl,rfl,a⟩:=DataW.trod_string Tryz.underlying9 h
 exact ⟨s,a,rfl,by simp [Rows.uptoBulk]⟩
theorem OG {α:Type} (f:α→AV) (p:α→Prop) (m:α→Nat) {t e:TypeId} {sz:Nat} (ht:Tryz.prog.underlying t=some (.slice e)) (hc:Tryz.prog.cellsOf e=sz) (hsz:0<sz) {n:Nat}
  (H0:∀ cs x,Td enc W n e cs=some x→∃ y u,p y∧u.cells.toList=cs∧R W Mem.start W u (f y)∧m y≤Rows.uptoBulk x.1) {cs:List Value} {x:DataW H × List MemPlace} (h:Td enc W (n+1) t cs=some x) :
  ∃ (l:List α) (v:Value),(∀ y∈l,p y)∧l.length≤maxLen∧cs=[v]∧R W Mem.start W v (.list (l.map f) .none)∧(l.map m).sum+1≤Rows.uptoBulk x.1:=by
 rcases DataW.trod_slice ht h with ⟨rfl,_⟩ | ⟨a,len,cap,elems,rest,n',hn,rfl,rfl,hb,hl,hm,hlen,hel,hsp,_⟩
 ·exact ⟨[],_,by simp,by simp,rfl,.nil (fun id=>by simp),by simpa using UG x.1⟩
 ·cases hn
  by_cases hcap:cap=0
  ·subst hcap
   obtain rfl:len=0:=by omega
   exact ⟨[],_,by simp,by simp,rfl,.emp (fun id=>by simp),by simpa using UG _⟩
  have hspot:a.spot=none:=by
   have get:∀ (c:DataW H × List MemPlace) (r:List Value→Option (DataW H × List MemPlace)),(W.cells? 0 (a.add (0*Tryz.prog.cellsOf e)) (Tryz.prog.cellsOf e)).bind r=some c→a.spot=none:=fun c r Z=>by
    obtain ⟨K,F,_⟩:=Option.bind_eq_some_iff.1 Z
    obtain ⟨_,D,E⟩:=World.cells?_some F
    have h4:=E 0 (by omega)
    rw [List.getElem?_eq_getElem (by omega)] at h4
    have e0:(a.add (0*Tryz.prog.cellsOf e)).add 0=a:=by simp [Addr.add]
    rw [e0] at h4
    unfold World.cell? at h4
    split at h4
    ·split at h4
     ·cases h4
     ·rename_i q;simpa using q
    ·cases h4
   by_cases h0:0<len
   ·have:=hel 0 h0
    rw [List.getElem?_eq_getElem (by omega)] at this
    exact get _ _ this
   ·obtain ⟨F,D⟩:=hsp rfl
    have:=D 0 (by omega)
    rw [List.getElem?_eq_getElem (by omega)] at this
    obtain rfl:len=0:=by omega
    exact get _ _ this
  obtain ⟨b,off,sp⟩:=a
  simp only at hspot
  subst hspot
  have C:∀ i,i<len→∃ y u,p y∧R W Mem.start W u (f y)∧(∀ h:i<elems.length,m y≤Rows.uptoBulk elems[i].1)∧u.cells.size=sz∧∀ j,j<sz→W.cell? ⟨b,off+i*sz+j,none⟩=u.cells[j]? := fun i k=>by
   have F:=hel i k
   rw [List.getElem?_eq_getElem (by omega)] at F
   obtain ⟨K,D,E⟩:=Option.bind_eq_some_iff.1 F
   obtain ⟨y,u,h4,Y,h6,N⟩:=H0 _ _ E
   obtain ⟨_,Q,U⟩:=World.cells?_some D
   rw [hc] at Q U
   refine ⟨y,u,h4,h6,fun _=>N,by rw [←Q,←Y,Array.length_toList],fun j G=>?_⟩
   have:=U j G
   rw [←Y,Array.getElem?_toList] at this
   rw [←this]
   congr 1
   have V:∀ (o m:Nat),(⟨b,o,none⟩:Addr).add m=⟨b,o+m,none⟩:=fun o m=>by unfold Addr.add;split<;>simp_all
   rw [V,V]
  classical
  let y:Nat→Option (α × Value):=fun i=>if k:i<len then some (Classical.choose (C i k),Classical.choose (Classical.choose_spec (C i k))) else none
  have O:len=0∨Nonempty (α × Value):=by
   by_cases h0:0<len
   ·obtain ⟨z,u,_⟩:=C 0 h0;exact .inr ⟨(z,u)⟩
   ·exact .inl (by omega)
  rcases O with h0 | ⟨⟨d⟩⟩
  ·subst h0
   exact ⟨[],_,by simp,by simp,rfl,.list (xs:=[]) 0 (fun _=>undef) (Nat.zero_le _) hm (fun i k=>absurd k (by simp)) (fun i k=>absurd k (by simp)) trivial,by simpa using UG _⟩
  ·let g:Nat→α × Value:=fun i=>if k:i<len then (Classical.choose (C i k),Classical.choose (Classical.choose_spec (C i k))) else d
   have J:∀ i,i<len→p (g i).1∧R W Mem.start W (g i).2 (f (g i).1)∧(∀ h:i<elems.length,m (g i).1≤Rows.uptoBulk elems[i].1)∧(g i).2.cells.size=sz∧∀ j,j<sz→W.cell? ⟨b,off+i*sz+j,none⟩=(g i).2.cells[j]? := fun i k=>by
    have:=Classical.choose_spec (Classical.choose_spec (C i k))
    simp only [g,dif_pos k]
    exact this
   have s:(((List.range len).map fun i=>(g i).1).map f).length=len:=by simp
   refine ⟨(List.range len).map fun i=>(g i).1,.slice (some ⟨b,off,none⟩) len cap,fun z hz=>?_,by simp;omega,rfl,?_,?_⟩
   ·obtain ⟨i,k,rfl⟩:=List.mem_map.1 hz
    exact (J i (by simpa using k)).1
   ·have:=Ev.R.list (w0:=W) (M:=Ev.Mem.start) (w:=W) (b:=b) (off:=off) (cap:=cap) (xs:=((List.range len).map fun i=>(g i).1).map f) (o := .none) sz (fun i=>(g i).2) (by rw [s];exact hl) hm
     (fun i k=>by
      rw [s] at k
      obtain ⟨_,_,_,E,h4⟩:=J i k
      refine ⟨E,fun j G=>⟨.inl ?_,h4 j G⟩⟩
      have:=h4 j G
      rw [Array.getElem?_eq_getElem (by rw [E];exact G)] at this
      exact World.block_lt_of_cell? W _ this) (fun i k=>by
      rw [s] at k
      simp only [List.getElem_map,List.getElem_range]
      exact (J i k).2.1) trivial
    rw [s] at this
    exact this
   ·have:=Zj m ((List.range len).map fun i=>(g i).1) elems (by simp;omega) (fun i F D=>by
     simp only [List.getElem_map,List.getElem_range]
     exact (J i (by omega)).2.2.1 D)
    simp only [Rows.uptoBulk]
    omega
theorem Vl.ones (v:Vl):∀ x∈v.cs,x.one=true:=by
 cases v;intro x hx
 simp only [Vl.cs,List.mem_cons,List.not_mem_nil,or_false] at hx
 rcases hx with rfl | rfl | rfl | rfl | rfl | rfl<;>rfl
theorem Ty.ones (v:Ty):∀ x∈v.cs,x.one=true:=by
 cases v;intro x hx
 simp only [Ty.cs,List.mem_cons,List.not_mem_nil,or_false] at hx
 rcases hx with rfl | rfl | rfl | rfl | rfl | rfl | rfl<;>rfl
theorem ZcM:∀ (n:Nat) (cs:List Value) (x:DataW H × List MemPlace),Td enc W n 34 cs=some x→∃ v:Vl,v.wf∧RC W cs v.cs∧v.bulk≤Rows.uptoBulk x.1
 | 0,cs,x,h=>by simp [Td,DataW.trod] at h
 | n+1,cs,x,h=>by
  obtain ⟨xs,n',hn,rfl,m,hx,a⟩:=DataW.trod_struct Tryz.underlying34 h
  cases hn
  have g:cs.length=6:=m.trans (by kernel_rfl)
  have C:xs.length=6:=hx
  match cs,g,xs,C,a with
  | [c0,c1,c2,c3,c4,c5],_,[y0,y1,y2,y3,y4,y5],_,a =>
  have V:_=some y0:=a 0 _ rfl;have O:_=some y1:=a 1 _ rfl;have Q:_=some y2:=a 2 _ rfl;have f3:_=some y3:=a 3 _ rfl;have J:_=some y4:=a 4 _ rfl;have N:_=some y5:=a 5 _ rfl
  obtain ⟨k,U,ek⟩:=PY V
  obtain ⟨i,hi,ei⟩:=PY O
  obtain ⟨s,hs,es⟩:=PY Q
  obtain ⟨t,F,et,bt⟩:=Z0 f3
  cases n with
  | zero=>simp [DataW.trod] at J
  | succ n =>
  obtain ⟨l,vl,d,w,el,j,bl⟩:=OG Bv Vl.wf Vl.bulk Tryz.underlying31 (sz:=6) (by kernel_rfl) (by omega) (fun cs x h=>by
   obtain ⟨v,hv,c,K⟩:=ZcM n cs x h
   exact ⟨v,.agg cs.toArray,hv,by simp [Value.cells],c.agg v.ones,K⟩) J
  obtain ⟨E,vf,r,z,ef,y,bf⟩:=OG BV (fun p=>p.1.size≤maxLen∧p.2.wf) (fun p=>p.1.size+p.2.bulk) Tryz.underlying32 (sz:=7) (by kernel_rfl) (by omega) (fun cs x h=>by
   cases n with
   | zero=>simp [DataW.trod] at h
   | succ n =>
   obtain ⟨G,n',hn,rfl,m,hx,a⟩:=DataW.trod_struct Tryz.underlying81 h
   cases hn
   have u:cs.length=7:=m.trans (by kernel_rfl)
   have o:G.length=2:=hx
   match G,o,a with
   | [w0,w1],_,a =>
   have Z:_=some w0:=a 0 _ rfl;have q1:_=some w1:=a 1 _ rfl
   obtain ⟨nm,b,en,bn⟩:=Z0 Z
   obtain ⟨v,hv,c,K⟩:=ZcM n _ _ q1
   have e2:Tryz.prog.cellsOf 34=6:=by kernel_rfl
   have Y:Tryz.prog.cellsOf 9=1:=by kernel_rfl
   simp only [List.getElem_toArray,List.getElem_cons_zero,List.getElem_cons_succ,e2,Y] at en c
   match cs,u with
   | [c0,c1,c2,c3,c4,c5,c6],_ =>
   simp only [List.drop_zero,List.take_succ_cons,List.take_zero,List.cons.injEq,and_true,List.drop_succ_cons] at en c
   subst en
   refine ⟨(nm,v),.agg #[.string nm,c1,c2,c3,c4,c5,c6],⟨b,hv⟩,rfl,?_,by simp only [List.map_cons,List.map_nil,Rows.uptoBulk,Rows.uptoBulkAll];omega⟩
   exact RC.agg (cs:=[.string nm,c1,c2,c3,c4,c5,c6]) (.cons (.flat (Ag b)) c) (fun x hx=>by
    rcases List.mem_cons.1 hx with rfl | hx
    ·rfl
    ·exact v.ones x hx)) N
  have f:Tryz.prog.cellsOf 3=1:=by kernel_rfl
  have D:Tryz.prog.cellsOf 9=1:=by kernel_rfl
  have q:Tryz.prog.cellsOf 31=1:=by kernel_rfl
  have e:Tryz.prog.cellsOf 32=1:=by kernel_rfl
  simp only [List.getElem_toArray,List.getElem_cons_zero,List.getElem_cons_succ,f,D,q,e,List.drop_zero,List.take_succ_cons,List.take_zero,List.cons.injEq,and_true,List.drop_succ_cons] at ek ei es et el ef
  subst ek ei es et el ef
  refine ⟨.mk k i s t l E,?_,?_,by simp only [List.map_cons,List.map_nil,Rows.uptoBulk,Rows.uptoBulkAll,Vl.bulk,SK,XQ];omega⟩
  ·unfold Vl.wf
   exact ⟨U,hi,hs,F,w,z,(ZbZ l).2 d,(Zb4 E).2 r⟩
  ·rw [Vl.cs,XH,ZbV]
   exact .cons (.flat rfl) (.cons (.flat rfl) (.cons (.flat rfl) (.cons (.flat (Ag F)) (.cons j (.cons y .nil)))))
theorem Zaa:∀ (n:Nat) (cs:List Value) (x:DataW H × List MemPlace),Td enc W n 26 cs=some x→∃ v:Ty,v.wf∧RC W cs v.cs∧v.bulk≤Rows.uptoBulk x.1
 | 0,cs,x,h=>by simp [Td,DataW.trod] at h
 | n+1,cs,x,h=>by
  obtain ⟨xs,n',hn,rfl,t,hx,a⟩:=DataW.trod_struct Tryz.underlying26 h
  cases hn
  have z:cs.length=7:=t.trans (by kernel_rfl)
  have Y:xs.length=7:=hx
  match cs,z,xs,Y,a with
  | [c0,c1,c2,c3,c4,c5,c6],_,[y0,y1,y2,y3,y4,y5,y6],_,a =>
  have f0:_=some y0:=a 0 _ rfl;have f1:_=some y1:=a 1 _ rfl;have f2:_=some y2:=a 2 _ rfl;have f3:_=some y3:=a 3 _ rfl;have f4:_=some y4:=a 4 _ rfl;have f5:_=some y5:=a 5 _ rfl;have f6:_=some y6:=a 6 _ rfl
  obtain ⟨k,hk,ek⟩:=PY f0
  obtain ⟨lo,V,elo⟩:=PY f1
  obtain ⟨hi,E,ehi⟩:=PY f2
  obtain ⟨s,hs,es⟩:=PY f3
  cases n with
  | zero=>simp [DataW.trod] at f4
  | succ n =>
  obtain ⟨w,vw,Q,f,ew,C,bw⟩:=OG V6 (fun s=>s.size≤maxLen) (fun w=>w.size+1) Tryz.underlying22 (sz:=1) (by kernel_rfl) (by omega) (fun cs x h=>by
   obtain ⟨s,hs,rfl,e⟩:=Z0 h
   exact ⟨s,.string s,hs,rfl,.flat (Ag hs),e⟩) f4
  obtain ⟨el,ve,m,u,ee,q,be⟩:=OG Ny Ty.wf Ty.bulk Tryz.underlying23 (sz:=7) (by kernel_rfl) (by omega) (fun cs x h=>by
   obtain ⟨v,hv,b,e⟩:=Zaa n cs x h
   exact ⟨v,.agg cs.toArray,hv,by simp [Value.cells],b.agg v.ones,e⟩) f5
  obtain ⟨Z,vf,D,J,ef,F,bf⟩:=OG ET (fun p=>BM p.1∧p.2.1.size≤maxLen∧BM p.2.2.1∧p.2.2.2.1.wf∧p.2.2.2.2.length≤maxLen∧∀ v∈p.2.2.2.2,v.wf) (fun p=>p.2.1.size+p.2.2.2.1.bulk+Jl p.2.2.2.2) Tryz.underlying24 (sz:=11) (by kernel_rfl) (by omega) (fun cs x h=>by
   cases n with
   | zero=>simp [DataW.trod] at h
   | succ n =>
   obtain ⟨ys,n',hn,rfl,t,hx,a⟩:=DataW.trod_struct Tryz.underlying95 h
   cases hn
   have d:cs.length=11:=t.trans (by kernel_rfl)
   have U:ys.length=5:=hx
   match ys,U,a with
   | [w0,w1,w2,w3,w4],_,a =>
   have q0:_=some w0:=a 0 _ rfl;have q1:_=some w1:=a 1 _ rfl;have q2:_=some w2:=a 2 _ rfl;have q3:_=some w3:=a 3 _ rfl;have q4:_=some w4:=a 4 _ rfl
   obtain ⟨l,K,enu⟩:=PY q0
   obtain ⟨nm,c,en,bn⟩:=Z0 q1
   obtain ⟨N,j,end'⟩:=PY q2
   obtain ⟨v,hv,b,aa⟩:=Zaa n _ _ q3
   cases n with
   | zero=>simp [DataW.trod] at q4
   | succ n =>
   obtain ⟨dl,vd,i,o,ed,G,bd⟩:=OG Bv Vl.wf Vl.bulk Tryz.underlying31 (sz:=6) (by kernel_rfl) (by omega) (fun cs x h=>by
    obtain ⟨v,hv,b,e⟩:=ZcM n cs x h
    exact ⟨v,.agg cs.toArray,hv,by simp [Value.cells],b.agg v.ones,e⟩) q4
   have e1:Tryz.prog.cellsOf 3=1:=by kernel_rfl
   have e2:Tryz.prog.cellsOf 26=7:=by kernel_rfl
   have e3:Tryz.prog.cellsOf 9=1:=by kernel_rfl
   have e4:Tryz.prog.cellsOf 31=1:=by kernel_rfl
   simp only [List.getElem_toArray,List.getElem_cons_zero,List.getElem_cons_succ,e1,e2,e3,e4] at enu en end' b ed
   match cs,d with
   | [c0,c1,c2,c3,c4,c5,c6,c7,c8,c9,c10],_ =>
   simp only [List.drop_zero,List.take_succ_cons,List.take_zero,List.cons.injEq,and_true,List.drop_succ_cons] at enu en end' b ed
   subst enu en end' ed
   refine ⟨(l,nm,N,v,dl),.agg #[.int .i64 l,.string nm,.int .i64 N,c3,c4,c5,c6,c7,c8,c9,c10],⟨K,c,j,hv,o,i⟩,rfl,?_,by simp only [List.map_cons,List.map_nil,Rows.uptoBulk,Rows.uptoBulkAll,SK];omega⟩
   exact RC.agg (cs:=[.int .i64 l,.string nm,.int .i64 N]++([c3,c4,c5,c6,c7,c8,c9]++[c10])) (.cons (.flat rfl) (.cons (.flat (show J4 (.string nm)=true from Ag c)) (.cons (.flat rfl) (b.app (.cons G .nil))))) (fun x hx=>by
    simp only [List.mem_cons,List.mem_append,List.not_mem_nil,or_false] at hx
    rcases hx with rfl | rfl | rfl | hx | rfl
    ·rfl
    ·rfl
    ·rfl
    ·exact v.ones x hx
    ·rfl)) f6
  have r:Tryz.prog.cellsOf 3=1:=by kernel_rfl
  have O:Tryz.prog.cellsOf 22=1:=by kernel_rfl
  have y:Tryz.prog.cellsOf 23=1:=by kernel_rfl
  have g:Tryz.prog.cellsOf 24=1:=by kernel_rfl
  simp only [List.getElem_toArray,List.getElem_cons_zero,List.getElem_cons_succ,r,O,y,g,List.drop_zero,List.take_succ_cons,List.take_zero,List.cons.injEq,and_true,List.drop_succ_cons] at ek elo ehi es ew ee ef
  subst ek elo ehi es ew ee ef
  refine ⟨.mk k lo hi s w el Z,?_,?_,by simp only [List.map_cons,List.map_nil,Rows.uptoBulk,Rows.uptoBulkAll,Ty.bulk,WT,WY,Ve];omega⟩
  ·unfold Ty.wf
   exact ⟨hk,V,E,hs,Q,f,u,J,(Zbo el).2 m,(Yy Z).2 D⟩
  ·rw [Ty.cs,ZbE,YI,Zf3]
   exact .cons (.flat rfl) (.cons (.flat rfl) (.cons (.flat rfl) (.cons (.flat rfl) (.cons C (.cons q (.cons F .nil))))))
end
section
variable {H:Type} {enc:TypeId × Value→H} {W:World} {base:Nat} {v:Value} {d:DataW H} {p:List MemPlace}
theorem ZjY {t:TypeId} {fs:Array Field} (ht:Tryz.prog.underlying t=some (.struct fs)) (hv:Value.okWide Tryz.prog W .any base t v):∃ cs,v = .agg cs:=by
 unfold Value.okWide at hv
 rw [ht] at hv
 obtain ⟨cs,h,_⟩:=hv
 exact ⟨cs,h⟩
end
end Go.Proofs.YtmcnjijeocmkgaaGreatDoor
namespace Go.Proofs.YtmcnjijeocmkgaaGreatDoor
open Go Go.RowKit Go.Ev
theorem AM {α:Type} {l:List α} {k:Nat} (h:k<l.length):B1 l (k:Int)=some l[k]:=Zj3 h
theorem AC {a b:Nat}:decide ((a:Int)<(b:Int))=decide (a<b):=by simp
theorem AK {k:Nat} (h:k<1000000000000):BM ((k:Int)+1):=by unfold BM;omega
theorem Ty.size_pos (t:Ty):0<t.size:=by cases t;simp [Ty.size];omega
theorem Ty.size_eq (t:Ty):t.size=1+GO t.elem+Dp t.fields:=by cases t;simp [Ty.size,Ty.elem,Ty.fields]
theorem W4:∀ (l:List Ty) (v:Ty),v∈l→v.size≤GO l
 | [],_,h=>by simp at h
 | a::r,v,h=>by
  rcases List.mem_cons.1 h with rfl | h
  ·simp [GO]
  ·have:=W4 r v h
   simp [GO];omega
theorem VH:∀ (l:List (Int × ByteArray × Int × Ty × List Vl)) (p:Int × ByteArray × Int × Ty × List Vl),p∈l→p.2.2.2.1.size≤Dp l
 | [],_,h=>by simp at h
 | (a,b,c,t,d)::r,p,h=>by
  rcases List.mem_cons.1 h with rfl | h
  ·simp [Dp]
  ·have:=VH r p h
   simp [Dp];omega
theorem WF:∀ l:List Ty,l.length≤GO l
 | []=>Nat.le_refl _
 | v::r=>by have:=WF r;have:=v.size_pos;simp [GO];omega
theorem VF:∀ l:List (Int × ByteArray × Int × Ty × List Vl),l.length≤Dp l
 | []=>Nat.le_refl _
 | (_,_,_,t,_)::r=>by have:=VF r;have:=t.size_pos;simp [Dp];omega
theorem Ty.elem_size (t x:Ty) (h:x∈t.elem):x.size<t.size:=by have:=W4 _ _ h;have:=t.size_eq;omega
theorem Ty.field_size (t:Ty) (p) (h:p∈t.fields):p.2.2.2.1.size<t.size:=by have:=VH _ _ h;have:=t.size_eq;omega
theorem Ty.lens (t:Ty):t.elem.length<t.size∧t.fields.length<t.size:=by have:=WF t.elem;have:=VF t.fields;have:=t.size_eq;omega
theorem Vl.list_size (v x:Vl) (h:x∈v.list):x.size<v.size:=by have:=PV _ _ h;have:=v.size_eq;omega
theorem Vl.field_size (v:Vl) (p) (h:p∈v.fields):p.2.size<v.size:=by have:=Ns _ _ h;have:=v.size_eq;omega
mutual
def Ty.depth:Ty→Nat
 | .mk _ _ _ _ _ e f=>1+max (EX e) (D7 f)
def EX:List Ty→Nat
 | []=>0
 | t::r=>max t.depth (EX r)
def D7:List (Int × ByteArray × Int × Ty × List Vl)→Nat
 | []=>0
 | (_,_,_,t,_)::r=>max t.depth (D7 r)
end
mutual
def Vl.ok:Vl→Prop
 | .mk _ _ _ t l f=>t.size≤1048576∧ZcG l∧ZcV f
def ZcG:List Vl→Prop
 | []=>True
 | v::r=>v.ok∧ZcG r
def ZcV:List (ByteArray × Vl)→Prop
 | []=>True
 | (n,v)::r=>n.size≤1048576∧v.ok∧ZcV r
end
theorem Za3:∀ l,ZcG l↔∀ v∈l,v.ok
 | []=>by simp [ZcG]
 | v::r=>by simp [ZcG,Za3 r]
theorem ZbF:∀ l,ZcV l↔∀ p∈l,p.1.size≤1048576∧p.2.ok
 | []=>by simp [ZcV]
 | (n,v)::r=>by simp [ZcV,ZbF r,and_assoc]
def Vl.small (v:Vl):Prop:=v.size≤1048575∧v.depth≤1048576∧v.ok
mutual
def Ty.ok:Ty→Prop
 | .mk _ _ _ _ w e f=>w.length≤1048576∧(∀ x∈w,x.size≤1048576)∧ZeN e∧YM f
def ZeN:List Ty→Prop
 | []=>True
 | v::r=>v.ok∧ZeN r
def YM:List (Int × ByteArray × Int × Ty × List Vl)→Prop
 | []=>True
 | (_,n,_,t,d)::r=>(n.size≤1048576∧t.ok∧d.length≤1048576∧∀ v∈d,v.small)∧YM r
end
theorem ZbJ:∀ l,ZeN l↔∀ v∈l,v.ok
 | []=>by simp [ZeN]
 | v::r=>by simp [ZeN,ZbJ r]
theorem Zo:∀ l,YM l↔∀ p∈l,p.2.1.size≤1048576∧p.2.2.2.1.ok∧p.2.2.2.2.length≤1048576∧∀ v∈p.2.2.2.2,v.small
 | []=>by simp [YM]
 | (_,n,_,t,d)::r=>by simp [YM,Zo r]
theorem Ty.ok_eq (t:Ty):t.ok↔t.words.length≤1048576∧(∀ x∈t.words,x.size≤1048576)∧(∀ v∈t.elem,v.ok)∧∀ p∈t.fields,p.2.1.size≤1048576∧p.2.2.2.1.ok∧p.2.2.2.2.length≤1048576∧∀ v∈p.2.2.2.2,v.small:=by
 cases t;simp only [Ty.ok,Ty.words,Ty.elem,Ty.fields,ZbJ,Zo]
theorem Vl.ok_eq (v:Vl):v.ok↔v.text.size≤1048576∧(∀ x∈v.list,x.ok)∧∀ p∈v.fields,p.1.size≤1048576∧p.2.ok:=by
 cases v;simp only [Vl.ok,Vl.text,Vl.list,Vl.fields,Za3,ZbF]
theorem PK:∀ (l:List Ty) (d:Nat),EX l≤d↔∀ v∈l,v.depth≤d
 | [],d=>by simp [EX]
 | v::r,d=>by simp [EX,Nat.max_le,PK r d]
theorem NF:∀ (l:List (Int × ByteArray × Int × Ty × List Vl)) (d:Nat),D7 l≤d↔∀ v∈l,v.2.2.2.1.depth≤d
 | [],d=>by simp [D7]
 | (_,_,_,t,_)::r,d=>by simp [D7,Nat.max_le,NF r d]
theorem Ty.depth_eq (t:Ty):t.depth=1+Max.max (EX t.elem) (D7 t.fields):=by cases t;simp [Ty.depth,Ty.elem,Ty.fields]
theorem Vl.eta (v:Vl):Vl.mk v.kind v.int v.scale v.text v.list v.fields=v:=by cases v;rfl
theorem Ty.eta (v:Ty):Ty.mk v.kind v.min v.max v.scale v.words v.elem v.fields=v:=by cases v;rfl
theorem Xt (rec:Vl→Option Vl) (n:Nat) (v:Vl) (hs:v.fields.length≤1000000000000) (hr:∀ p∈v.fields,rec p.2=some p.2) (b:List Vl):∀ (k m i:Nat),i+k=v.fields.length→k<m→IL rec n v m i b (v.fields.take i)=some (Vl.mk v.kind v.int v.scale v.text b v.fields)
 | k,0,i,_,h=>absurd h (Nat.not_lt_zero _)
 | 0,m+1,i,hi,_=>by
  rw [IL,AC,Ac]
  simp only [Bool.false_eq_true,if_false,NQ]
  rw [List.take_of_length_le (by omega)]
 | k+1,m+1,i,hi,hm=>by
  have a:i<v.fields.length:=by omega
  rw [IL,AC,Ag a]
  simp only [if_true,AM a,Ae,hr _ (List.getElem_mem a)]
  rw [Ah (by rw [List.length_take];omega),Ah (AK (by omega))]
  have e:v.fields.take i++[(v.fields[i].1,v.fields[i].2)]=v.fields.take (i+1):=by rw [List.take_succ_eq_append_getElem a]
  rw [e]
  exact Xt rec n v hs hr b k m (i+1) (by omega) (by omega)
theorem UJ (rec:Vl→Option Vl) (n:Nat) (v:Vl) (hs:v.fields.length≤1000000000000∧v.list.length≤1000000000000) (hn:v.fields.length<n) (hr:(∀ x∈v.list,rec x=some x)∧∀ p∈v.fields,rec p.2=some p.2):∀ (k m i:Nat),i+k=v.list.length→k<m→Ji rec n v m i (v.list.take i)=some v
 | k,0,i,_,h=>absurd h (Nat.not_lt_zero _)
 | 0,m+1,i,hi,_=>by
  rw [Ji,AC,Ac]
  simp only [Bool.false_eq_true,if_false,O1]
  rw [List.take_of_length_le (by omega)]
  have:=Xt rec n v hs.1 hr.2 v.list v.fields.length n 0 (by omega) hn
  rw [List.take_zero] at this
  exact this.trans (by rw [Vl.eta])
 | k+1,m+1,i,hi,hm=>by
  have a:i<v.list.length:=by omega
  rw [Ji,AC,Ag a]
  simp only [if_true,AM a,Ae,hr.1 _ (List.getElem_mem a)]
  rw [Ah (by rw [List.length_take];omega),Ah (AK (by omega))]
  have e:v.list.take i++[v.list[i]]=v.list.take (i+1):=by rw [List.take_succ_eq_append_getElem a]
  rw [e]
  exact UJ rec n v hs hn hr k m (i+1) (by omega) (by omega)
theorem R2:∀ (n:Nat) (v:Vl),v.size<n→v.wide=true→Bm n v=some v
 | 0,v,h,_=>absurd h (Nat.not_lt_zero _)
 | n+1,v,h,hs=>by
  have e:=IM v
  obtain ⟨f,g,c,d⟩:=v.wide_iff.1 hs
  rw [Bm,Ox]
  have:=UJ (Bm n) n v ⟨by omega,by omega⟩ (by omega) ⟨fun x a=>R2 n x (by have:=v.list_size x a;omega) (c x a),fun p b=>R2 n p.2 (by have:=v.field_size p b;omega) (d p b)⟩ v.list.length n 0 (by omega) (by omega)
  rw [List.take_zero] at this
  exact this
theorem FZ (n:Nat) (v:Vl) (h:v.size<n) (hs:v.size≤1000000000):Bm n v=some v:=R2 n v h (J3 _ v (Nat.le_refl _) (by omega))
abbrev TF:=Int × ByteArray × Int × Ty × List Vl
theorem Zdv (rec:Ty→Option Ty) (n:Nat) (p:TF) (y:Ty) (hs:p.2.2.2.2.length≤1000000000) (hr:∀ v∈p.2.2.2.2,Bm n v=some v):∀ (k m i:Nat),i+k=p.2.2.2.2.length→k<m→EB rec n p y m (p.2.2.2.2.take i) i=some (p.1,p.2.1,p.2.2.1,y,p.2.2.2.2)
 | k,0,i,_,h=>absurd h (Nat.not_lt_zero _)
 | 0,m+1,i,hi,_=>by
  rw [EB,AC,Ac]
  simp only [Bool.false_eq_true,if_false,Je]
  rw [List.take_of_length_le (by omega)]
 | k+1,m+1,i,hi,hm=>by
  have a:i<p.2.2.2.2.length:=by omega
  rw [EB,AC,Ag a]
  simp only [if_true,AM a,Ae,hr _ (List.getElem_mem a)]
  rw [Ah (by rw [List.length_take];omega),Ah (AK (by omega))]
  have e:p.2.2.2.2.take i++[p.2.2.2.2[i]]=p.2.2.2.2.take (i+1):=by rw [List.take_succ_eq_append_getElem a]
  rw [e]
  exact Zdv rec n p y hs hr k m (i+1) (by omega) (by omega)
theorem Zfz (rec:Ty→Option Ty) (n:Nat) (p:TF) (hs:p.2.2.2.2.length≤1000000000) (hn:p.2.2.2.2.length<n) (hr:∀ v∈p.2.2.2.2,Bm n v=some v) (ht:rec p.2.2.2.1=some p.2.2.2.1):EL rec n p=some p:=by
 rw [EL,ht]
 simp only [Ae]
 rw [Ab]
 have:=Zdv rec n p p.2.2.2.1 hs hr p.2.2.2.2.length n 0 (by omega) hn
 rw [List.take_zero] at this
 exact this
theorem Ww (rec:Ty→Option Ty) (n:Nat) (t:Ty) (hw:t.words.length≤1000000000) (hs:t.fields.length≤1000000000) (hr:∀ p∈t.fields,EL rec n p=some p) (e:List Ty):∀ (k m i:Nat),i+k=t.fields.length→k<m→Ip rec n t m e (t.fields.take i) i=some (Ty.mk t.kind t.min t.max t.scale t.words e t.fields)
 | k,0,i,_,h=>absurd h (Nat.not_lt_zero _)
 | 0,m+1,i,hi,_=>by
  rw [Ip,AC,Ac]
  simp only [Bool.false_eq_true,if_false,NW]
  rw [List.take_of_length_le (by omega),Ab]
 | k+1,m+1,i,hi,hm=>by
  have a:i<t.fields.length:=by omega
  rw [Ip,AC,Ag a]
  simp only [if_true,AM a,Ae,hr _ (List.getElem_mem a)]
  rw [Ah (by rw [List.length_take];omega),Ah (AK (by omega))]
  have b:t.fields.take i++[t.fields[i]]=t.fields.take (i+1):=by rw [List.take_succ_eq_append_getElem a]
  rw [b]
  exact Ww rec n t hw hs hr e k m (i+1) (by omega) (by omega)
theorem YH (rec:Ty→Option Ty) (n:Nat) (t:Ty) (hw:t.words.length≤1000000000) (hs:t.fields.length≤1000000000∧t.elem.length≤1000000000) (hn:t.fields.length<n) (hr:(∀ x∈t.elem,rec x=some x)∧∀ p∈t.fields,EL rec n p=some p):∀ (k m i:Nat),i+k=t.elem.length→k<m→Jv rec n t m (t.elem.take i) i=some t
 | k,0,i,_,h=>absurd h (Nat.not_lt_zero _)
 | 0,m+1,i,hi,_=>by
  rw [Jv,AC,Ac]
  simp only [Bool.false_eq_true,if_false,O2]
  rw [List.take_of_length_le (by omega),Ab]
  have:=Ww rec n t hw hs.1 hr.2 t.elem t.fields.length n 0 (by omega) hn
  rw [List.take_zero] at this
  exact this.trans (by rw [Ty.eta])
 | k+1,m+1,i,hi,hm=>by
  have a:i<t.elem.length:=by omega
  rw [Jv,AC,Ag a]
  simp only [if_true,AM a,Ae,hr.1 _ (List.getElem_mem a)]
  rw [Ah (by rw [List.length_take];omega),Ah (AK (by omega))]
  have e:t.elem.take i++[t.elem[i]]=t.elem.take (i+1):=by rw [List.take_succ_eq_append_getElem a]
  rw [e]
  exact YH rec n t hw hs hn hr k m (i+1) (by omega) (by omega)
theorem UN:∀ (n:Nat) (t:Ty),t.size+1400000<n→t.size≤1000000000→t.ok→IQ n t=some t
 | 0,t,h,_,_=>absurd h (Nat.not_lt_zero _)
 | n+1,t,h,hs,hok=>by
  have i:=t.lens
  obtain ⟨f,g,e,d⟩:=t.ok_eq.1 hok
  rw [IQ,Rj,Ab]
  have:=YH (IQ n) n t (by omega) ⟨by omega,by omega⟩ (by omega) ⟨fun x a=>UN n x (by have:=t.elem_size x a;omega) (by have:=t.elem_size x a;omega) (e x a),fun p c=>by
   obtain ⟨_,q2,q3,b⟩:=d p c
   have:=t.field_size p c
   exact Zfz _ n p (by omega) (by omega) (fun v hv=>FZ n v (by have:=(b v hv).1;omega) (by have:=(b v hv).1;omega)) (UN n _ (by omega) (by omega) q2)⟩ t.elem.length n 0 (by omega) (by omega)
  rw [List.take_zero] at this
  exact this
def NN (n:Nat)  (b:List Ty):Option ((List Ty)) :=
 some (b)
def SI (n:Nat)  : Option ((List Ty)) :=
 some ([])
def Ik (n:Nat) (h:Ty):Nat→(List Ty)→Int→Option ((List Ty))
 | 0,_,_=>none
 | m+1,g,b =>
  if decide (b<(h.fields.length:Int)) then
   (B1 h.fields b).bind fun q =>
   if (g.length+1)*104≤140737488355328∧g.length+1≤4611686018427387904 then
    if BM (b+1) then
     (Ik n h m) (g++([q.2.2.2.1])) (b+1)
    else none
   else none
  else
   NN n g
def Jz (n:Nat) (g:Ty) (b:Bool):Option ((List Ty)) :=
 if b then
  if 0≤(g.fields.length:Int)∧(g.fields.length:Int)*104≤140737488355328∧(g.fields.length:Int)≤4611686018427387904 then
   Ik n g n ([]) 0
  else none
 else
  SI n 
def OP (n:Nat) (b:Ty):Option ((List Ty)) :=
 if decide (b.kind=8) then
  some (b.elem)
 else
  if decide (b.kind=9) then
   Jz n b true
  else
   Jz n b (decide (b.kind=10))
theorem Zcc (w0:World) (n:Nat) (B:Am) (Rw:Aq) (L:Ar) (a0:Ty) (r:(List Ty)) (h:OP n a0=some r) :
  ACalls Tryz.prog w0 93 [.agg (a0.cs)] ⟨B,Rw,L⟩ fun x st=>x = .list (r.map Ny) .none∧st=⟨B,Rw,L⟩:=by
 rw [OP] at h
 refine hd [.tmp 2] Tryz.func93 Tryz.ntmps93 fun M0 W0 p o l b w k hs=>?_
 simp only [AG]
 refine rg [1] hs ?_
 refine AA (fun e st=>Ck e st B Rw L [] [a0.cs] [] (SI n  = some r)) ?_ ?_
 ·intro K4 u
  refine rg [1,7] hs ?_
  apply Ao
  refine rg [1,7,8] hs ?_
  refine BN h hs ?_ ?_<;>intro hs h
  ·refine rg [2] hs ?_
   exact rt h hs b k
  refine AA (fun e st=>∃ (g:Bool),Ck e st B Rw L [(1,true,.box B.length 0),(12,true,.val (.bool g))] [a0.cs] [] (Jz n a0 g=some r)) ?_ ?_
  ·intro K11 q
   exact go (tg (a:=([1,7,12],([1,12],()),[1,12],()))) h hs p o l b k trivial (q1 q)
  ·clear h;rintro e st ⟨g,Xk10,Rk10,rfl,rfl,k,h⟩
   rw [Jz] at h
   refine td p o l b k ?_
   refine BN h hs ?_ ?_<;>intro hs h
   ·obtain ⟨v,h⟩:=Au h
    have k:=k.make 7 0
    refine rg [1,3] hs ?_
    refine AA (fun e st=>∃ (c:List Ty) (i:Ev.Own),Ck e st B Rw L [(3,true,.list (c.map Ny) i)] [a0.cs] [(7,c.length,i)] (NN n c=some r)) ?_ ?_
    ·intro K20 t
     refine rg [3,20,21,22] hs ?_
     apply Ao
     refine AL (fun m e st=>∃ (d:List Ty) (f:Int) (j:Ev.Own),Ck e st B Rw L [(3,true,.list (d.map Ny) j),(20,true,.list (a0.fields.map ET) .none),(21,true,Ak (a0.fields.length:Int)),(22,true,Ak f)] [a0.cs] [(7,d.length,j)] (Ik n a0 m d f=some r)) n ⟨([]),0,((.row Rk10.length)),([]),((Rk10++[.grow 0 7])),ef hs,ef hs,Owns.of_eq (k) Kr,h⟩ ?_
     rintro ml22 e st ⟨d,f,j,Xl22,Rl22,rfl,rfl,k,h⟩ Ul22 Vl22
     cases ml22 with
     | zero=>cases h
     | succ ml22 =>
     rw [Ik] at h
     exact go (tg (a:=([3,20,21,22,23],([3,20,21,22],[3,5,20,21,22],[3,20,21,22],[3,20,21,22],()),[3],()))) h hs p o l b k (q1 (ae ZfN ZaW)) (q2 t (fun e s=>Vl22 ml22 e s (Nat.lt_succ_self _)))
    ·clear h;rintro e st ⟨c,i,Xk19,Rk19,rfl,rfl,k,h⟩
     rw [NN] at h
     exact go (tg (a:=([2],()))) h hs p o l b k trivial trivial
   refine sk [] hs u ?_
   exact ⟨([]),Rk10,ef hs,ef hs,k,h⟩
 ·clear h;rintro e st ⟨Xk3,Rk3,rfl,rfl,k,h⟩
  rw [SI] at h
  refine td p o l b k ?_
  refine rg [2] hs ?_
  exact rt h hs b k
def U7 (t:Ty):List Ty:=if t.kind=8 then t.elem else if t.kind=9∨t.kind=10 then t.fields.map fun p=>p.2.2.2.1 else []
theorem Zfm (n:Nat) (t:Ty) (hs:t.fields.length≤1000000000):∀ (k m i:Nat) (x:List Ty),i+k=t.fields.length→k<m→x.length=i→Ik n t m x i=some (x++(t.fields.drop i).map fun p=>p.2.2.2.1)
 | k,0,i,_,_,h,_=>absurd h (Nat.not_lt_zero _)
 | 0,m+1,i,x,hi,_,_=>by
  rw [Ik,AC,Ac]
  simp only [Bool.false_eq_true,if_false,NN]
  rw [List.drop_eq_nil_of_le (by omega),List.map_nil,List.append_nil]
 | k+1,m+1,i,x,hi,hm,hx=>by
  have a:i<t.fields.length:=by omega
  rw [Ik,AC,Ag a]
  simp only [if_true,AM a,Ae]
  rw [Ab,Ah (AK (by omega))]
  have ih:=Zfm n t hs k m (i+1) (x++[t.fields[i].2.2.2.1]) (by omega) (by omega) (by simp [hx])
  rw [List.drop_eq_getElem_cons a,List.map_cons]
  rw [List.append_assoc] at ih
  exact ih
theorem Zf (n:Nat) (t:Ty) (hn:t.fields.length<n) (hs:t.fields.length≤1000000000):OP n t=some (U7 t):=by
 have a:Jz n t true=some (t.fields.map fun p=>p.2.2.2.1):=by
  rw [Jz,Ah rfl,Ab]
  have:=Zfm n t hs t.fields.length n 0 [] (by omega) hn rfl
  rw [List.drop_zero,List.nil_append] at this
  exact this
 rw [OP,U7]
 by_cases h1:t.kind=8
 ·rw [Ah (Ag h1),Ah h1]
 rw [Ai (by rw [decide_eq_true_eq];exact h1),Ai h1]
 by_cases h2:t.kind=9
 ·rw [Ah (Ag h2),a,Ah (.inl h2)]
 rw [Ai (by rw [decide_eq_true_eq];exact h2)]
 by_cases h3:t.kind=10
 ·rw [Ag h3,a,Ah (.inr h3)]
 ·rw [Af h3,Aa];rfl
theorem ZfT {a b:ByteArray} (h:a.data.toList=b.data.toList):a=b:=by
 cases a;cases b;simp at h;rw [h]
theorem ZdS:∀ a b:List UInt8,Lib.compareBytes a b=0→a=b
 | [],[],_=>rfl
 | [],_::_,h=>absurd (show (-1:Int)=0 from h) (by decide)
 | _::_,[],h=>absurd (show (1:Int)=0 from h) (by decide)
 | x::a,y::b,h=>by
  simp only [Lib.compareBytes] at h
  by_cases h1:x<y
  ·simp [h1] at h
  ·by_cases h2:y<x
   ·simp [h1,h2] at h
   ·simp only [h1,h2,if_false] at h
    rw [ZdS a b h]
    have:x=y:=by
     rw [UInt8.lt_iff_toNat_lt] at h1 h2
     exact UInt8.toNat_inj.1 (by omega)
    rw [this]
theorem KW (a b:ByteArray):E6 a b=0↔a=b:=by
 unfold E6
 constructor
 ·intro h;exact ZfT (ZdS _ _ h)
 ·rintro rfl;exact Wa _
theorem Db (x y:ByteArray):Eb x y=true↔x=y:=by
 unfold Eb
 rw [beq_iff_eq]
 exact ⟨ZfT,fun h=>by rw [h]⟩
theorem Cj (x:ByteArray):Eb x x=true:=(Db x x).2 rfl
theorem Vd {α:Type} (l m:List α) (i:Nat) (h1:i<l.length) (h2:i<m.length):l.drop i=m.drop i↔l[i]=m[i]∧l.drop (i+1)=m.drop (i+1):=by
 rw [List.drop_eq_getElem_cons h1,List.drop_eq_getElem_cons h2,List.cons.injEq]
theorem Xu {n:Nat} (h:n≤1048576):n≤maxLen:=by unfold maxLen;omega
theorem Vl.ext' {a b:Vl} (h1:a.kind=b.kind) (h2:a.int=b.int) (h3:a.scale=b.scale) (h4:a.text=b.text) (h5:a.list=b.list) (h6:a.fields=b.fields):a=b:=by
 rw [←a.eta,←b.eta,h1,h2,h3,h4,h5,h6]
theorem TF.ext' {p q:TF} (h1:p.1=q.1) (h2:p.2.1=q.2.1) (h3:p.2.2.1=q.2.2.1) (h4:p.2.2.2.1=q.2.2.2.1) (h5:p.2.2.2.2=q.2.2.2.2):p=q:=by
 obtain ⟨a,b,c,d,e⟩:=p
 obtain ⟨f,g,h,i,j⟩:=q
 simp only at h1 h2 h3 h4 h5
 rw [h1,h2,h3,h4,h5]
theorem Ty.ext' {a b:Ty} (h1:a.kind=b.kind) (h2:a.min=b.min) (h3:a.max=b.max) (h4:a.scale=b.scale) (h5:a.words=b.words) (h6:a.elem=b.elem) (h7:a.fields=b.fields):a=b:=by
 rw [←a.eta,←b.eta,h1,h2,h3,h4,h5,h6,h7]
end Go.Proofs.YtmcnjijeocmkgaaGreatDoor
