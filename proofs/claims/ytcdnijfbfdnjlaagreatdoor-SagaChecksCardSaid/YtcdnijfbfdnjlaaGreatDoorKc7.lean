/-
  Part 7 of the proof: rules and walks that the claim's last text uses.
-/
import Derived.BigQuiet
import Derived.Deep.LoopGhost
import Derived.Deep.QuietTactic
import Derived.Deep.RegionLaw
import Derived.Ground.Names2Prog
import Derived.Ground.NamesProg
import Derived.Ground.SlgfProg
import Derived.Ground.SlgnProg
import Derived.Ground.SlsfProg
import Derived.Laws.RangeAny
import Derived.Lib.OthersKept
import Derived.Lib.SliceRun
import Derived.Lib.Walk
import Derived.Shelf.LaysC
import Derived.Shelf.LaysM
import Derived.Shelf.RegionOpenPlain
import Derived.Shelf.SlBodiesN
import Derived.Shelf.Slices.Clone
import Derived.Shelf.SlicesE.Clone
import Derived.Shelf.SlicesE.Equal
import Derived.Shelf.SlicesE.IndexFunc
import Derived.Shelf.Small.Bits
import Derived.Shelf.Small.Strs
import Derived.Shelf.Small.Utf8
import Derived.Shelf.Strconv.Atoi
import Derived.Shelf.Strconv.AtoiAll
import Derived.Shelf.Strconv.AtoiErrFast
import Derived.Shelf.Strconv.AtoiFail
import Derived.Shelf.Strconv.AtoiInnerAll
import Derived.Shelf.Strconv.AtoiLong
import Derived.Shelf.Strconv.Clone
import Derived.Shelf.Strconv.Lower
import Derived.Shelf.Strconv.ParseInt10
import Derived.Shelf.Strconv.ParseIntEmpty
import Derived.Shelf.Strconv.ParseUint10
import Derived.Shelf.Strconv.ParseUint10Any
import Derived.Shelf.Strconv.ParseUint10Empty
import Derived.Shelf.Strconv.RangeError
import Derived.Shelf.Strconv.SyntaxError
import Derived.Shelf.Strconv.ToError
import Derived.Shelf.Strconv.ToErrorRange
import Derived.Shelf.Strings.AsciiSet
import Derived.Shelf.Strings.Cut
import Derived.Shelf.Strings.IndexAny
import Derived.Shelf.Strings.IndexAnyAll
import Derived.Shelf.Strings.Prefix
import Derived.Shelf.Strings.Repeat
import Derived.Shelf.Strings.Runes
import Derived.Shelf.Strings.Search1
import Derived.Shelf.Strings.Search2
import Derived.Shelf.Strings.Shaped
import Derived.Shelf.Unicode.Decode
import Derived.Shelf.Unicode.DecodeAny
import Derived.Shelf.Unicode.DecodeSlow
import Derived.Shelf.Utf8.AppendRunePlain
import Derived.Test.YtcdnijfbfdnjlaaGreatDoorProg
import Derived.WalkKit
import Derived.WalkMore
import Derived.WalkSmall
import Derived.Test.YtcdnijfbfdnjlaaGreatDoorKc6
set_option linter.unusedSimpArgs false
set_option linter.unusedVariables false
set_option maxRecDepth 100000
set_option maxHeartbeats 4000000
namespace Go.Ev
open Go Go.RowKit
section
structure Cfg where
 gl:TypeId→Nat→Option AV
 ext:FuncId→List AV→Option AV
 exs:Fl→FuncId→List AV→St→Option (AV × St)
 isX:FuncId→Bool
 kp:FuncId→Bool
 im:FuncId→Bool
 imx:FuncId→FuncId→Bool
 q:Nat
 m:Nat
noncomputable def Cfg.at (C:Cfg) (f:FuncId) (m:Nat):Cfg:={ C with im:=fun g=>C.im g||C.imx f g,m:=m }
noncomputable def Cfg.m0 (C:Cfg):Cfg:={ C with m:=0 }
noncomputable def Wx (l:List Operand) (m:Nat):Nat:=List.rec (motive:=fun _=>Nat→Nat) (fun m=>m) (fun x _ ih m=>match x with | .tmp t=>ih (Nat.lor m (Nat.shiftLeft 1 t)) | _=>ih m) l m
noncomputable def ZiC (ops:List Oper):Nat:=List.rec (motive:=fun _=>Nat→Nat→Nat) (fun m s=>m) (fun o _ ih m s=>ih (Nat.lor m (Nat.lor (Nat.xor (Nat.land (Wx o.op.operands.toList 0) s) (Wx o.op.operands.toList 0)) 0)) (match o.dst with | some d=>Nat.lor s (Nat.shiftLeft 1 d) | none=>s)) ops 0 0
noncomputable def QV:Code→Nat
 | .region _ ops _=>ZiC ops.toList
 | .seq a b=>Nat.lor (QV a) (QV b)
 | .cond o a b=>Nat.lor (Wx [o] 0) (Nat.lor (QV a) (QV b))
 | .block _ a=>QV a
 | .loop a=>QV a
 | .rangeFunc g ps asg body=>Nat.lor (Wx [g] 0) (Nat.lor (QV asg) (QV body))
 | _=>0
noncomputable def HW (fn:Func) (c:Code):Nat:=List.rec (motive:=fun _=>Nat→Nat) (fun m=>m) (fun r _ ih m=>match r with | .tmp t=>ih (Nat.lor m (Nat.shiftLeft 1 t)) | .cell t _=>ih (Nat.lor m (Nat.shiftLeft 1 t))) fn.results.toList (QV c)
noncomputable def Vk:Nat→AV→List Nat
 | 0,_=>[]
 | k+1,.agg xs=>xs.flatMap (Vk k)
 | k+1,.tup xs=>xs.flatMap (Vk k)
 | k+1,.list xs _=>xs.flatMap (Vk k)
 | k+1,.elem x _=>Vk k x
 | k+1,.clo _ xs=>xs.flatMap (Vk k)
 | _+1,.vec i _ _ _=>[i]
 | _+1,_=>[]
theorem OX {F:Fl} {f:AV→AV} {s:St} (hf:Fits F s):Pre F s (G2 F.b F.r f s) :=
 ⟨⟨IL _ _ _,IL _ _ _,rfl⟩,by simpa [G2,Et] using hf.1,by simpa [G2,Et] using hf.2.1,hf.2.2⟩
noncomputable def XP {β:Type} (g:AV→AV) (n:Nat):AV→(AV→β)→β :=
 Nat.rec (motive:=fun _=>AV→(AV→β)→β) (fun x k=>k x) (fun _ ih x k=>match x with
  | .agg xs=>H7 ih xs fun xs=>k (.agg xs)
  | .tup xs=>H7 ih xs fun xs=>k (.tup xs)
  | .list (x::xs) o=>ih x fun x=>H7 ih xs fun xs=>k (.list (x::xs) o)
  | .list [] o=>fA 60 (g (.list [] o)) k
  | .elem x i=>ih x fun x=>k (.elem x i)
  | .clo f xs=>H7 ih xs fun xs=>k (.clo f xs)
  | .vec a b c d=>fA 60 (g (.vec a b c d)) k
  | x=>k x) n
theorem RB {β:Type} (g:AV→AV):∀ (n:Nat) (x:AV) (k:AV→β),XP g n x k=k (deep g n x)
 | 0,x,k=>rfl
 | n+1,x,k=>by
  have ih:∀ (x:AV) (k:AV→β),XP g n x k=k (deep g n x):=fun x k=>RB g n x k
  have e:∀ (l:List AV) (k:List AV→β),H7 (XP g n) l k=k (l.map (deep g n)):=fun l k=>IK ih l k
  cases x with
  | agg xs=>show H7 (XP g n) xs (fun xs=>k (.agg xs))=_;rw [e];rfl
  | tup xs=>show H7 (XP g n) xs (fun xs=>k (.tup xs))=_;rw [e];rfl
  | list xs o =>
   cases xs with
   | nil=>show fA 60 (g (.list [] o)) k=_;rw [LL];rfl
   | cons x xs =>
    show XP g n x (fun x=>H7 (XP g n) xs fun xs=>k (.list (x::xs) o))=_
    rw [ih,e];rfl
  | elem x i=>show XP g n x (fun x=>k (.elem x i))=_;rw [ih];rfl
  | clo f xs=>show H7 (XP g n) xs (fun xs=>k (.clo f xs))=_;rw [e];rfl
  | vec a b c d=>show fA 60 (g (.vec a b c d)) k=_;rw [LL];rfl
  | _=>rfl
noncomputable def Zi5 {β:Type} (g:AV→AV) (x:Nat × Bool × AV) (k:Nat × Bool × AV→β):β :=
 Prod.rec (motive:=fun _=>β) (fun s p=>Prod.rec (motive:=fun _=>β) (fun c v=>Bool.rec (motive:=fun _=>β) (k (s,c,deep g 60 v)) (XP g 60 v fun v=>k (s,c,v)) c) p) x
noncomputable def dEK {β:Type} (g:AV→AV) (e:Env) (k:Env→β):β:=H7 (Zi5 g) e k
theorem R7 {β:Type} (g:AV→AV) (e:Env) (k:Env→β):dEK g e k=k (Nc (deep g 60) e):=by
 have a:∀ (x:Nat × Bool × AV) (k:Nat × Bool × AV→β),Zi5 g x k=k (x.1,x.2.1,deep g 60 x.2.2):=by
  rintro ⟨s,c,v⟩ k
  cases c
  ·rfl
  ·exact RB g 60 v fun v=>k (s,true,v)
 have b:∀ e:Env,e.map (fun x=>(x.1,x.2.1,deep g 60 x.2.2))=Nc (deep g 60) e:=by
  intro e
  induction e with
  | nil=>rfl
  | cons x e ih=>obtain ⟨s,c,v⟩:=x;rw [List.map_cons,ih];rfl
 rw [dEK,IK a,b]
noncomputable def Yx {α β:Type} (f:α→(α→β)→β) (n:Nat) (l:List α) (k:List α→β):β :=
 List.rec (motive:=fun _=>Nat→(List α→β)→β) (fun _ k=>k []) (fun x xs ih n k=>Nat.rec (motive:=fun _=>β) (H7 f (x::xs) k) (fun m _=>ih m fun r=>k (x::r)) n) l n k
theorem NZ {α β:Type} {f:α→(α→β)→β} {g:α→α} (hf:∀ x k,f x k=k (g x)):∀ (l:List α) (n:Nat) (k:List α→β),Yx f n l k=k (Eb n g l)
 | [],0,k=>rfl
 | [],n+1,k=>rfl
 | x::xs,0,k=>IK hf (x::xs) k
 | x::xs,n+1,k=>NZ hf xs n fun r=>k (x::r)
noncomputable def Zjr {β:Type} (g:AV→AV) (r:RowA) (k:RowA→β):β:=match r with
 | .vec v sz cs=>fN v fun v=>fN sz fun sz=>H7 (XP g 60) cs fun cs=>k (.vec v sz cs)
 | .dead v=>fN v fun v=>k (.dead v)
 | r=>k r
theorem ZdA {β:Type} (g:AV→AV) (r:RowA) (k:RowA→β):Zjr g r k=k (Wl (deep g 60) r):=by
 cases r with
 | vec v sz cs=>show fN v (fun v=>fN sz fun sz=>H7 (XP g 60) cs fun cs=>k (.vec v sz cs))=_;rw [CO,CO,IK (RB g 60)];rfl
 | dead v=>exact CO v fun v=>k (.dead v)
 | grow a b=>rfl
noncomputable def ZcZ {β:Type} (b r:Nat) (g:AV→AV) (bx:Aq) (rw:Au) (lp:Av) (k:St→β):β :=
 Yx (fun cs k=>H7 (XP g 60) cs k) b bx fun bx=>Yx (Zjr g) r rw fun rw=>H7 WO lp fun lp=>k ⟨bx,rw,lp⟩
theorem NK {β:Type} (b r:Nat) (g:AV→AV) (bx:Aq) (rw_:Au) (lp:Av) (k:St→β):ZcZ b r g bx rw_ lp k=k (G2 b r (deep g 60) ⟨bx,rw_,lp⟩):=by
 rw [ZcZ,NZ (g:=fun cs=>cs.map (deep g 60)) (fun cs k=>IK (RB g 60) cs k),NZ (ZdA g),Ea OV];rfl
noncomputable def Hj (F:Fl) (ids:Env→St→List Nat):Nat→Env→St→Env × St
 | 0,e,st=>(e,st)
 | k+1,e,st=>match (ids e st).filter (Nat.ble F.r) with
  | []=>(e,st)
  | id::_=>match st.rows[id]? with
   | some (.vec ver sz cs)=>if Nat.ble F.r id=true then dEK (Vg id ver sz cs) e fun e=>ZcZ F.b F.r (Vg id ver sz cs) st.boxes (st.rows.set id (.dead (ver+1))) st.loops fun st=>Hj F ids k e st else (e,st)
   | _=>(e,st)
theorem IF (w0:World) (F:Fl) (ids:Env→St→List Nat):∀ (k:Nat) (e:Env) (st:St),ConvE w0 e st (Hj F ids k e st).1 (Hj F ids k e st).2
 | 0,e,st => .refl _ _ _
 | k+1,e,st=>by
  unfold Hj
  split
  ·exact .refl _ _ _
  ·split
   ·rename_i h
    split
    ·rw [R7,NK]
     exact (Tu w0 F.b F.r 60 e st _ _ _ _ h).trans (IF w0 F ids k _ _)
    ·exact .refl _ _ _
   ·exact .refl _ _ _
theorem Jq {F:Fl} (ids:Env→St→List Nat):∀ (k:Nat) (e:Env) (st:St),Fits F st→Pre F st (Hj F ids k e st).2
 | 0,e,st,hf => .refl hf
 | k+1,e,st,hf=>by
  unfold Hj
  split
  ·exact .refl hf
  ·split
   ·split
    ·rename_i hi
     rw [R7,NK]
     exact (Pre.row _ hf (Nat.le_of_ble_eq_true hi)).andThen fun a=>(OX a).andThen fun b=>Jq ids k _ _ b
    ·exact .refl hf
   ·exact .refl hf
noncomputable def Lo (F:Fl):Nat→Nat→Env→St→Env × St
 | 0,_,e,st=>(e,st)
 | k+1,i,e,st=>match st.rows[i]? with
  | some (.grow 0 sz)=>if Nat.blt 0 sz=true∧Nat.ble F.r i=true then dEK (N9 i) e (fun e=>ZcZ F.b F.r (N9 i) st.boxes (st.rows.set i (.vec 0 sz [])) st.loops fun st=>Lo F k (i+1) e st) else Lo F k (i+1) e st
  | some _=>Lo F k (i+1) e st
  | none=>(e,st)
theorem IV (w0:World) (F:Fl):∀ (k i:Nat) (e:Env) (st:St),ConvE w0 e st (Lo F k i e st).1 (Lo F k i e st).2
 | 0,i,e,st => .refl _ _ _
 | k+1,i,e,st=>by
  unfold Lo
  split
  ·rename_i sz h
   split
   ·rename_i hs
    rw [R7,NK]
    exact (XU w0 F.b F.r 60 e st i sz h (DI hs.1)).trans (IV w0 F k _ _ _)
   ·exact IV w0 F k _ _ _
  ·exact IV w0 F k _ _ _
  ·exact .refl _ _ _
theorem JQ {F:Fl}:∀ (k i:Nat) (e:Env) (st:St),Fits F st→Pre F st (Lo F k i e st).2
 | 0,i,e,st,hf => .refl hf
 | k+1,i,e,st,hf=>by
  unfold Lo
  split
  ·rename_i sz h
   split
   ·rename_i hs
    rw [R7,NK]
    exact (Pre.row _ hf (Nat.le_of_ble_eq_true hs.2)).andThen fun a=>(OX a).andThen fun b=>JQ k _ _ _ b
   ·exact JQ k _ _ _ hf
  ·exact JQ k _ _ _ hf
  ·exact .refl hf
noncomputable def ZiT:Op→Bool
 | .call ⟨.builtin .append,_,_⟩=>true
 | _=>false
noncomputable def Zgs:Op→Bool
 | .makeSlice _ _ _=>true
 | _=>false
noncomputable def SZ (isX:FuncId→Bool):List Oper→List Nat
 | []=>[]
 | o::os=>match o.op with
  | .call ⟨.value (.func f),args,_⟩=>if isX f=true then FR args.toList++SZ isX os else SZ isX os
  | _=>SZ isX os
noncomputable def ZcS:Op→Bool
 | .move _ | .assign _ | .load _ (.tmp _) | .nilCheck _ | .slice _ _ _ _ _ | .fieldAddr _ _ _ | .field _ _ _ | .indexAddr _ _ _ | .extract _ _=>true
 | _=>false
noncomputable def UE (P:Program) (F:Fl) (st:St):List Oper→Env→Env
 | [],e=>e
 | o::os,e=>match ZcS o.op with
  | true=>match Tn P F e st o.op fun v _=>some v with
   | some v=>Xp e o.dst true v fun e=>UE P F st os e
   | none=>UE P F st os e
  | false=>UE P F st os e
noncomputable def ZkF (P:Program) (F:Fl) (isX:FuncId→Bool) (ops:List Oper) (e:Env) (st:St):List Nat :=
 (SZ isX ops).flatMap fun t=>Vk 60 (Ap (UE P F st ops e) (.tmp t))
noncomputable def ZgE (d:Option Nat) (os:List Oper):Bool :=
 match d with
 | some s=>os.any fun o=>match o.op with | .call ⟨_,args,_⟩=>(FR args.toList).any (Nat.beq s) | _=>false
 | none=>false
noncomputable def ID:List Oper→Env→Env
 | [],e=>e
 | o::os,e=>match o.op with
  | .buildSlice t _ _=>if ZgE o.dst os=true then ID os e else ID os ((1000000+t,false,.junk)::e)
  | _=>ID os e
noncomputable def FH (F:Fl) (all:List Oper) (le:Env):List Oper→Env→St→Env × St
 | [],e,st=>(e,st)
 | o::os,e,st=>match o.op with
  | .call ⟨.builtin .append,args,_⟩=>match args.toList with
   | [.tmp s,_]=>match all.find? (fun p=>match p.dst with | some d=>Nat.beq d s | none=>false) with
    | some p=>match p.op with
     | .load _ (.tmp a)=>match Ap le (.tmp a) with
      | .box l i=>if Nat.ble F.b l=true then FH F all le os e (Of st l i) else FH F all le os e st
      | _=>FH F all le os e st
     | .move (.tmp u)=>FH F all le os (We u e) st
     | _=>FH F all le os e st
    | none=>FH F all le os (We s e) st
   | _=>FH F all le os e st
  | _=>FH F all le os e st
theorem Db (w0:World) (F:Fl) (all:List Oper) (le:Env):∀ (os:List Oper) (e:Env) (st:St),ConvE w0 e st (FH F all le os e st).1 (FH F all le os e st).2
 | [],e,st => .refl _ _ _
 | o::os,e,st=>by
  unfold FH
  split
  ·split
   ·split
    ·split
     ·split
      ·split
       ·exact (TT w0 e st _ _).trans (Db w0 F all le os _ _)
       ·exact Db w0 F all le os _ _
      ·exact Db w0 F all le os _ _
     ·exact (Ob w0 e st _).trans (Db w0 F all le os _ _)
     ·exact Db w0 F all le os _ _
    ·exact (Ob w0 e st _).trans (Db w0 F all le os _ _)
   ·exact Db w0 F all le os _ _
  ·exact Db w0 F all le os _ _
theorem VH {F:Fl} {st:St} {l i:Nat} (hf:Fits F st) (hl:F.b≤l):Pre F st (Of st l i):=by
 unfold Of
 split
 ·split
  ·exact .box _ hf hl
  ·exact .refl hf
 ·exact .refl hf
theorem DL {F:Fl} (all:List Oper) (le:Env):∀ (os:List Oper) (e:Env) (st:St),Fits F st→Pre F st (FH F all le os e st).2
 | [],e,st,hf => .refl hf
 | o::os,e,st,hf=>by
  unfold FH
  split
  ·split
   ·split
    ·split
     ·split
      ·split
       ·rename_i hl
        have p:=VH (i:=by assumption) hf (Nat.le_of_ble_eq_true hl)
        exact p.trans (DL all le os _ _ p.2)
       ·exact DL all le os _ _ hf
      ·exact DL all le os _ _ hf
     ·exact DL all le os _ _ hf
     ·exact DL all le os _ _ hf
    ·exact DL all le os _ _ hf
   ·exact DL all le os _ _ hf
  ·exact DL all le os _ _ hf
noncomputable def ZaW (x:Env × St):Env × St:=match x with | (e,s)=>fE e fun e=>UH s fun s=>(e,s)
theorem QO (x:Env × St):ZaW x=x:=by
 obtain ⟨e,s⟩:=x
 show (fE e fun e=>UH s fun s=>(e,s))=_
 rw [Nb,Jh]
noncomputable def RA (P:Program) (F:Fl) (ops:List Oper) (e:Env) (st:St):Env × St:=if ops.any (fun o=>ZiT o.op)=true then ZaW (FH F ops (UE P F st ops e) ops e st) else (e,st)
noncomputable def Vx (P:Program) (F:Fl) (C:Cfg) (ops:List Oper) (x:Env × St):Env × St:=if (SZ C.isX ops).isEmpty=true then x else Hj F (ZkF P F C.isX ops) 20 x.1 x.2
noncomputable def OW (F:Fl) (ops:List Oper) (n0:Nat) (e:Env) (st:St):Env × St:=if ops.any (fun o=>Zgs o.op)=true then Lo F (st.rows.length-n0) n0 e st else (e,st)
noncomputable def NB (m s:Nat):Bool:=Nat.beq (Nat.land (Nat.shiftRight m s) 1) 1
noncomputable def Vu (m:Nat) (s:Nat):Bool:=Bool.rec (motive:=fun _=>Bool) (NB m s) (Nat.blt s 1000000) (Nat.beq m 0)
noncomputable def SN (m:Nat):Env→Env
 | []=>[]
 | x::e=>if Vu m x.1=true then x::SN m e else SN m e
theorem Xh (m:Nat) (e:Env):∀ (s:Nat),look (SN m e) s=if Vu m s=true then look e s else none:=by
 induction e with
 | nil=>intro s;split<;>rfl
 | cons x e ih =>
  obtain ⟨k,c,v⟩:=x
  intro s
  rw [SN]
  by_cases hk:Vu m k=true
  ·rw [Ah hk,look]
   by_cases q:k=s
   ·subst q;rw [Ah rfl,Ah hk,look,Ah rfl]
   ·rw [Ai q,ih s,look,Ai q]
  ·rw [Ai hk,ih s]
   by_cases hs:Vu m s=true
   ·rw [Ah hs,Ah hs,look,Ai (fun q:k=s=>hk (q▸hs))]
   ·rw [Ai hs,Ai hs]
theorem ZP (m:Nat) (e:Env):Si (SN m e) e:=fun s x h=>by
 rw [Xh] at h
 split at h
 ·exact h
 ·cases h
noncomputable def Zdg {β:Type} (m:Nat) (e:Env) (k:Env→β):β :=
 List.rec (motive:=fun _=>(Env→β)→β) (fun k=>k []) (fun x _ ih k=>Prod.rec (motive:=fun _=>β) (fun s p=>Bool.rec (motive:=fun _=>β) (ih k) (ih fun e=>k ((s,p)::e)) (Vu m s)) x) e k
theorem Q8 {β:Type} (m:Nat):∀ (e:Env) (k:Env→β),Zdg m e k=k (SN m e)
 | [],k=>rfl
 | (s,c,v)::e,k=>by
  show (Bool.rec (motive:=fun _=>β) (Zdg m e k) (Zdg m e fun e=>k ((s,c,v)::e)) (Vu m s):β)=_
  rw [SN]
  cases hq:Vu m s with
  | true=>rw [Ah rfl];exact Q8 m e _
  | false=>rw [Ai (by decide)];exact Q8 m e _
noncomputable def Zgb:Op→Bool
 | .buildSlice _ _ _=>true
 | .load _ (.global _)=>true
 | .call ⟨.value _,_,_⟩=>true
 | _=>false
noncomputable def V4 (ops:List Oper):Bool:=Nat.ble 3 ops.length||ops.any fun o=>Zgb o.op
noncomputable def NP (m:Nat) (ops:List Oper) (e:Env):Env:=if V4 ops=true then SN m e else e
theorem RH (w0:World) (m:Nat) (ops:List Oper) (e:Env) (st:St):ConvE w0 e st (NP m ops e) st:=by
 unfold NP
 split
 ·exact fun n M a w h=>⟨M,.refl _ _ _,h.sub (ZP m e)⟩
 ·exact .refl _ _ _
theorem Yb (w0:World) (P:Program) (F:Fl) (ops:List Oper) (e:Env) (st:St):ConvE w0 e st (RA P F ops e st).1 (RA P F ops e st).2:=by
 unfold RA
 split
 ·rw [QO];exact Db w0 F _ _ _ e st
 ·exact .refl _ _ _
theorem XZ (w0:World) (P:Program) (F:Fl) (C:Cfg) (ops:List Oper) (x:Env × St):ConvE w0 x.1 x.2 (Vx P F C ops x).1 (Vx P F C ops x).2:=by
 unfold Vx
 split
 ·exact .refl _ _ _
 ·exact IF w0 F _ _ _ _
theorem U9 (w0:World) (F:Fl) (ops:List Oper) (n0:Nat) (e:Env) (st:St):ConvE w0 e st (OW F ops n0 e st).1 (OW F ops n0 e st).2:=by
 unfold OW
 split
 ·exact IV w0 F _ _ _ _
 ·exact .refl _ _ _
theorem ZaJ {P:Program} {F:Fl} {ops:List Oper} {e:Env} {st:St} (hf:Fits F st):Pre F st (RA P F ops e st).2:=by
 unfold RA
 split
 ·rw [QO];exact DL _ _ _ _ _ hf
 ·exact .refl hf
theorem ZQ {P:Program} {F:Fl} {C:Cfg} {ops:List Oper} {x:Env × St} (hf:Fits F x.2):Pre F x.2 (Vx P F C ops x).2:=by
 unfold Vx
 split
 ·exact .refl hf
 ·exact Jq _ _ _ _ hf
theorem XO {F:Fl} {ops:List Oper} {n0:Nat} {e:Env} {st:St} (hf:Fits F st):Pre F st (OW F ops n0 e st).2:=by
 unfold OW
 split
 ·exact JQ _ _ _ _ hf
 ·exact .refl hf
noncomputable def UQ (m:Nat):Env→Nat→Env
 | [],_=>[]
 | x::e,seen=>if NB m x.1=true∧seen.testBit x.1=false then x::UQ m e (seen ||| 2 ^ x.1) else UQ m e seen
theorem MI (m:Nat):∀ (e:Env) (seen s:Nat) (x:Bool × AV),look (UQ m e seen) s=some x→seen.testBit s=false∧NB m s=true∧look e s=some x
 | [],seen,s,x,h=>by cases h
 | (k,c,v)::e,seen,s,x,h=>by
  rw [UQ] at h
  split at h
  ·rename_i hk
   rw [look] at h
   split at h
   ·rename_i q
    have q:k=s:=q
    subst q
    refine ⟨hk.2,hk.1,?_⟩
    rw [look,Ah rfl]
    exact h
   ·rename_i q
    have q:k≠s:=q
    obtain ⟨h1,h2,a⟩:=MI m e _ s x h
    rw [Nat.testBit_or,Bool.or_eq_false_iff] at h1
    refine ⟨h1.1,h2,?_⟩
    rw [look,Ai q];exact a
  ·rename_i hk
   obtain ⟨h1,h2,a⟩:=MI m e _ s x h
   refine ⟨h1,h2,?_⟩
   by_cases q:k=s
   ·subst q;exact absurd ⟨h2,h1⟩ hk
   ·rw [look,Ai q];exact a
noncomputable def UF (m:Nat) (e:Env):Env:=if Nat.beq m 0=true then e else UQ m e 0
theorem XN (m:Nat) (e:Env):Si (UF m e) e:=by
 unfold UF
 split
 ·exact fun _ _ h=>h
 ·exact fun s x h=>(MI m e 0 s x h).2.2
abbrev FV:=AV→List AV→St→Option (AV × St)
noncomputable def ZT (C:Cfg):Op→Bool
 | .call ⟨.value (.func f),_,_⟩=>C.im f
 | _=>false
noncomputable def KO (C:Cfg) (l:List Oper) (e:Env):Env:=if l.any (fun o=>ZT C o.op)=true then KH C.gl l ((1000000+0,false,.junk)::e) else KH C.gl l e
noncomputable def ZgP:Op→Bool
 | .call ⟨.value (.tmp _),_,_⟩=>true
 | _=>false
noncomputable def JD (P:Program) (C:Cfg) (al tc:Bool):List Oper→Nat
 | []=>0
 | o::os=>if (ZeW o.op && !(al&&LE P o))||ZT C o.op||(tc&&ZgP o.op) then 0 else JD P C al tc os+1
noncomputable def LR (P:Program) (l:List Oper) (h:Nat):List Nat:=(List.range h).filter fun i=>match l[i]? with | some o=>LE P o | none=>false
noncomputable def ZaS (l:List Oper) (ef:List Nat):List Nat:=ef.filterMap fun i=>(l[i]?).bind (·.dst)
noncomputable def WI (ss:List Nat) (e:Env):Env:=if ss.isEmpty then e else Do ((Yz e []).filter fun s => !ss.any (Nat.beq s)) e
theorem XG (ss:List Nat) (e:Env):Si (WI ss e) e:=by
 unfold WI
 split
 ·exact fun _ _ h=>h
 ·exact Fz _ _
noncomputable def Zaa (P:Program) (n:Nat) (C:Cfg) (l:List Oper) (h:Nat) (ef:List Nat) (e:Env):Bool:=Jr l h&&W6 P n l h ef (ID l (KO C l (WI (ZaS l ef) e)))
noncomputable def O1 (P:Program) (n:Nat) (F:Fl) (C:Cfg) (call0 call:FV) (l:List Oper) (h:Nat) (ef:List Nat) (e:Env) (st:St):Option (Env × St) :=
 if Zaa P n C l h ef e=true then
  fE (ID l (KO C l (WI (ZaS l ef) e))) fun e0=>match PL P n F true l C.gl call0 ((BA ef 0 l).take h) e0 st with
  | some (e1,s1)=>match IZ P n l ef e1 s1 with
   | some (e2,s2)=>fE e2 fun e2=>UH s2 fun s2=>PL P n F false l C.gl call (l.drop h) e2 s2
   | none=>none
  | none=>none
 else none
noncomputable def ZgA (C:Cfg) (l:List Oper):Nat→List Oper→List Nat→List Nat
 | _,[],_=>[]
 | i,o::os,ds=>if ZeW o.op||ZT C o.op||(looks l o).any (fun s=>ds.any (Nat.beq s)) then i::ZgA C l (i+1) os (match o.dst with | some d=>d::ds | none=>ds) else ZgA C l (i+1) os ds
noncomputable def asks (C:Cfg):Op→Bool
 | .buildSlice _ _ _=>true
 | .load _ (.global _)=>true
 | .call ⟨.value (.func f),_,_⟩=>C.im f
 | _=>false
noncomputable def mkE (C:Cfg) (l:List Oper) (e:Env):Env:=Bool.rec (motive:=fun _=>Env) e (ID l (KO C l e)) (l.any fun o=>asks C o.op)
theorem ZgI (C:Cfg) (l:List Oper) (e:Env):mkE C l e=e∨mkE C l e=ID l (KO C l e):=by
 unfold mkE
 cases l.any fun o=>asks C o.op
 ·exact .inl rfl
 ·exact .inr rfl
noncomputable def Xx (P:Program) (n:Nat) (F:Fl) (C:Cfg) (call0 call:FV) (l:List Oper) (draw:Bool) (e:Env) (st:St):Option (Env × St) :=
 match draw with
 | false=>match Zad P n l with
  | some (mt,xs,rest)=>PL P n F false l C.gl call rest (C0 e (some mt) true (.tab xs)) st
  | none=>PL P n F false l C.gl call l (mkE C l e) st
 | true =>
  if Zaa P n C l (JD P C true true l) (LR P l (JD P C true true l)) e=true then O1 P n F C call0 call l (JD P C true true l) (LR P l (JD P C true true l)) e st
  else if Zaa P n C l (JD P C true false l) (LR P l (JD P C true false l)) e=true then O1 P n F C call0 call l (JD P C true false l) (LR P l (JD P C true false l)) e st
  else if Zaa P n C l (JD P C false false l) [] e=true then O1 P n F C call0 call l (JD P C false false l) [] e st
  else Zbo P n F C.gl call0 call l (ZgA C l 0 l []) (KO C l e) st
noncomputable def M5 {β:Type} (x:Env × St) (k:Env→St→β):β:=match x with | (e,s)=>k e s
theorem Js {β:Type} (x:Env × St) (k:Env→St→β):M5 x k=k x.1 x.2:=rfl
noncomputable def Zdc {β:Type} (m:Nat) (ops:List Oper) (e:Env) (k:Env→β):β:=Bool.rec (motive:=fun _=>β) (k e) (Zdg m e k) (V4 ops)
theorem WY {β:Type} (m:Nat) (ops:List Oper) (e:Env) (k:Env→β):Zdc m ops e k=k (NP m ops e):=by
 unfold Zdc NP
 cases hq:V4 ops with
 | true=>rw [Ah rfl];exact Q8 m e k
 | false=>rw [Ai (by decide)]
noncomputable def ZB {β:Type} (m:Nat) (e:Env) (seen:Nat) (k:Env→β):β :=
 List.rec (motive:=fun _=>Nat→(Env→β)→β) (fun _ k=>k []) (fun x _ ih seen k=>Prod.rec (motive:=fun _=>β) (fun s p=>Bool.rec (motive:=fun _=>β) (ih seen k) (fN (Nat.lor seen (Nat.pow 2 s)) fun seen=>ih seen fun e=>k ((s,p)::e)) (NB m s && !Nat.testBit seen s)) x) e seen k
theorem QP {β:Type} (m:Nat):∀ (e:Env) (seen:Nat) (k:Env→β),ZB m e seen k=k (UQ m e seen)
 | [],seen,k=>rfl
 | (s,p)::e,seen,k=>by
  show (Bool.rec (motive:=fun _=>β) (ZB m e seen k) (fN (Nat.lor seen (Nat.pow 2 s)) fun seen=>ZB m e seen fun e=>k ((s,p)::e)) (NB m s && !Nat.testBit seen s):β)=_
  rw [UQ]
  by_cases hq:NB m s=true∧seen.testBit s=false
  ·rw [Ah hq,hq.1,hq.2]
   show fN (Nat.lor seen (Nat.pow 2 s)) (fun seen=>ZB m e seen fun e=>k ((s,p)::e))=_
   rw [CO]
   exact QP m e _ _
  ·rw [Ai hq]
   have:(NB m s && !Nat.testBit seen s)=false:=by
    cases h1:NB m s with
    | false=>rfl
    | true=>cases h2:Nat.testBit seen s with
     | true=>rfl
     | false=>exact absurd ⟨h1,h2⟩ hq
   rw [this]
   exact QP m e _ _
noncomputable def Wp {β:Type} (m:Nat) (e:Env) (k:Env→β):β:=Bool.rec (motive:=fun _=>β) (ZB m e 0 k) (k e) (Nat.beq m 0)
theorem TW {β:Type} (m:Nat) (e:Env) (k:Env→β):Wp m e k=k (UF m e):=by
 unfold Wp UF
 cases hq:Nat.beq m 0 with
 | true=>rw [Ah rfl]
 | false=>rw [Ai (by decide)];exact QP m e 0 k
noncomputable def ZZ:LoopState→Bool
 | .busy=>true
 | _=>false
noncomputable def Zdt:LoopState→Bool
 | .ready=>true
 | _=>false
noncomputable def FA (P:Program) (n:Nat) (rf:Bool) (F:Fl) (C:Cfg) (call0 call:FV):Nat→Code→Env→St→Option (Exit × Env × St)
 | 0,_,_,_=>none
 | k+1,c,e,st=>match c with
  | .skip=>some (.normal,e,st)
  | .region _ ops draw=>M5 (RA P F ops.toList e st) fun e1 s1=>M5 (Vx P F C ops.toList (e1,s1)) fun e2 s2=>match Xx P n F C call0 call ops.toList draw e2 s2 with
   | some (e',s')=>Zdc C.m ops.toList e' fun e'=>M5 (OW F ops.toList st.rows.length e' s') fun e' s'=>some (.normal,e',s')
   | none=>none
  | .seq a b=>match FA P n rf F C call0 call k a e st with
   | some (.normal,e',s')=>FA P n rf F C call0 call k b e' s'
   | r=>r
  | .cond o a b=>Cm e o fun v=>match v with
    | .val (.bool true)=>FA P n rf F C call0 call k a e st
    | .val (.bool false)=>FA P n rf F C call0 call k b e st
    | _=>none
  | .block id b=>match FA P n rf F C call0 call k b e st with
   | some (.exit i,e',s')=>if i=id then some (.normal,e',s') else some (.exit i,e',s')
   | r=>r
  | .loop b=>match Wp C.m e fun e=>FA P n rf F C call0 call k b e st with
   | some (.normal,e',s')=>FA P n rf F C call0 call k (.loop b) e' s'
   | r=>r
  | .rangeFunc g ps asg body=>if rf=true∧argOk e true g then match Ap e g with
    | .clo gf caps=>match UH (st.push ⟨e,n,ps,asg,body,.ready,none,none⟩) fun s0=>HV st.loops fun nl=>call (.clo gf caps) [.yld nl] s0 with
     | some (_,s3)=>match s3.loops[st.loops.length]? with
      | some la=>if la.keys.isNone=true∧ZZ la.st=false then match la.pend with
        | none=>UH { s3 with loops:=s3.loops.set st.loops.length (RE la .exhausted la.pend) } fun s4=>some (.normal,e,s4)
        | some .ret=>UH { s3 with loops:=s3.loops.set st.loops.length (RE la .exhausted la.pend) } fun s4=>some (.ret,e,s4)
        | some (.exit id)=>UH { s3 with loops:=s3.loops.set st.loops.length (RE la .exhausted la.pend) } fun s4=>some (.exit id,e,s4)
        | _=>none
       else none
      | none=>none
     | none=>none
    | _=>none
   else none
  | .exit id=>some (.exit id,e,st)
  | .ret=>some (.ret,e,st)
  | _=>none
structure SX where
 P:Program
 n:Nat
 rf:Bool
 F:Fl
 C:Cfg
 call0:FV
 call:FV
abbrev QR:=Option (Exit × Env × St)
abbrev QK:=SX→(Code→Env→St→QR)→Env→St→QR
noncomputable def Zid:QK:=fun X ih e st=>some (.normal,e,st)
noncomputable def Zll (e:Env) (s:St):QR:=some (.normal,e,s)
noncomputable def Ziv (F:Fl) (ops:List Oper) (nr:Nat) (s:St) (e:Env):QR:=M5 (OW F ops nr e s) Zll
noncomputable def ZeL (F:Fl) (m:Nat) (ops:List Oper) (nr:Nat) (x:Option (Env × St)):QR:=match x with
 | some (e,s)=>Zdc m ops e (Ziv F ops nr s)
 | none=>none
noncomputable def Zfl (P:Program) (n:Nat) (F:Fl) (C:Cfg) (call0 call:FV) (ops:List Oper) (draw:Bool) (nr:Nat) (e:Env) (s:St):QR:=ZeL F C.m ops nr (Xx P n F C call0 call ops draw e s)
noncomputable def Zy (P:Program) (n:Nat) (F:Fl) (C:Cfg) (call0 call:FV) (ops:List Oper) (draw:Bool) (nr:Nat) (e:Env) (s:St):QR:=M5 (Vx P F C ops (e,s)) (Zfl P n F C call0 call ops draw nr)
noncomputable def ZkG (ops:List Oper) (draw:Bool) (e:Env) (st:St) (P:Program) (n:Nat) (rf:Bool) (F:Fl) (C:Cfg) (call0 call:FV):QR:=M5 (RA P F ops e st) (Zy P n F C call0 call ops draw st.rows.length)
noncomputable def ZdU (id:Nat) (ops:Array Oper) (draw:Bool):QK:=fun X ih e st=>SX.rec (motive:=fun _=>QR) (ZkG ops.toList draw e st) X
noncomputable def Zaj (k:Env→St→QR) (x:QR):QR:=match x with
 | some (.normal,e,s)=>k e s
 | r=>r
noncomputable def ZkL (a b:Code):QK:=fun X ih e st=>Zaj (ih b) (ih a e st)
noncomputable def Zlc (x y:QR) (v:AV):QR:=match v with
 | .val (.bool true)=>x
 | .val (.bool false)=>y
 | _=>none
noncomputable def ZjA (o:Operand) (a b:Code):QK:=fun X ih e st=>Cm e o (Zlc (ih a e st) (ih b e st))
noncomputable def Zk9 (id:Nat) (x:QR):QR:=match x with
 | some (.exit i,e,s)=>if i=id then some (.normal,e,s) else some (.exit i,e,s)
 | r=>r
noncomputable def Zgk (id:Nat) (b:Code):QK:=fun X ih e st=>Zk9 id (ih b e st)
noncomputable def Zit (b:Code):QK:=fun X ih e st=>Zaj (ih (.loop b)) (Wp X.C.m e fun e=>ih b e st)
noncomputable def ZgU (g:Operand) (ps:Array Tmp) (asg body:Code):QK:=fun X ih e st =>
 if X.rf=true∧argOk e true g then match Ap e g with
    | .clo gf caps=>match UH (st.push ⟨e,X.n,ps,asg,body,.ready,none,none⟩) fun s0=>HV st.loops fun nl=>X.call (.clo gf caps) [.yld nl] s0 with
     | some (_,s3)=>match s3.loops[st.loops.length]? with
      | some la=>if la.keys.isNone=true∧ZZ la.st=false then match la.pend with
        | none=>UH { s3 with loops:=s3.loops.set st.loops.length (RE la .exhausted la.pend) } fun s4=>some (.normal,e,s4)
        | some .ret=>UH { s3 with loops:=s3.loops.set st.loops.length (RE la .exhausted la.pend) } fun s4=>some (.ret,e,s4)
        | some (.exit id)=>UH { s3 with loops:=s3.loops.set st.loops.length (RE la .exhausted la.pend) } fun s4=>some (.exit id,e,s4)
        | _=>none
       else none
      | none=>none
     | none=>none
    | _=>none
   else none
noncomputable def Zi7 (id:Nat):QK:=fun X ih e st=>some (.exit id,e,st)
noncomputable def ZkS:QK:=fun X ih e st=>some (.ret,e,st)
noncomputable def WQ:QK:=fun X ih e st=>none
noncomputable def Zfk (c:Code):QK:=Code.casesOn (motive:=fun _=>QK) c Zid ZdU ZkL ZjA Zgk Zit ZgU Zi7 (fun _=>WQ) (fun _=>WQ) (fun _=>WQ) ZkS (fun _=>WQ)
noncomputable def It (X:SX) (k:Nat):Code→Env→St→QR:=Nat.rec (motive:=fun _=>Code→Env→St→QR) (fun _ _ _=>none) (fun _ ih c e st=>Zfk c X ih e st) k
theorem V8 (X:SX):∀ (k:Nat) (c:Code) (e:Env) (st:St),It X k c e st=FA X.P X.n X.rf X.F X.C X.call0 X.call k c e st
 | 0,c,e,st=>rfl
 | k+1,c,e,st=>by
  have ih:It X k=FA X.P X.n X.rf X.F X.C X.call0 X.call k:=by funext c e st;exact V8 X k c e st
  show Zfk c X (It X k) e st=_
  rw [ih]
  cases c with
  | skip=>rfl
  | region id ops draw =>
   simp only [FA,Js]
   obtain ⟨P,n,rf,F,C,call0,call⟩:=X
   show M5 (RA P F ops.toList e st) (Zy P n F C call0 call ops.toList draw st.rows.length)=_
   rw [Js]
   unfold Zy
   rw [Js]
   unfold Zfl ZeL
   rfl
  | seq a b =>
   simp only [FA]
   show Zaj _ (FA _ _ _ _ _ _ _ k a e st)=_
   unfold Zaj
   rfl
  | cond o a b=>rfl
  | block id b=>rfl
  | loop b=>rfl
  | rangeFunc g ps asg body=>rfl
  | exit id=>rfl
  | ret=>rfl
  | _=>rfl
noncomputable def P4 (P:Program) (n:Nat) (rf:Bool) (F:Fl) (C:Cfg) (call0 call:FV) (k:Nat) (c:Code) (e:Env) (st:St):QR:=It ⟨P,n,rf,F,C,call0,call⟩ k c e st
theorem Lp (P:Program) (n:Nat) (rf:Bool) (F:Fl) (C:Cfg) (call0 call:FV) (k:Nat) (c:Code) (e:Env) (st:St):P4 P n rf F C call0 call k c e st=FA P n rf F C call0 call k c e st:=V8 _ _ _ _ _
section
variable {P:Program} {w0:World} {n:Nat} {F:Fl} {C:Cfg} {call0 call:FV} {M0:Mem} {W0:World} {ro:Option Nat}
theorem G5 (hn:n≤1000000) {Q:AQ} {c:Code} {st:St}:∀ (os:List Oper) (e:Env),CX P w0 n M0 W0 ro c Q (ID os e) st→CX P w0 n M0 W0 ro c Q e st
 | [],e,h=>h
 | o::os,e,h=>by
  unfold ID at h
  split at h
  ·split at h
   ·exact G5 hn os _ h
   ·exact Ut _ hn (G5 hn os _ h)
  ·exact G5 hn os _ h
theorem KZ (hn:n≤1000000) {Q:AQ} {c:Code} {st:St} (l:List Oper) (e:Env) (h:CX P w0 n M0 W0 ro c Q (KO C l e) st):CX P w0 n M0 W0 ro c Q e st:=by
 unfold KO at h
 split at h
 ·exact Ut _ hn (Hf hn l _ h)
 ·exact Hf hn l _ h
noncomputable def LU (F:Fl) (call:FV):Prop:=∀ fv args st v st',Fits F st→call fv args st=some (v,st')→Pre F st st'
noncomputable def HeadC (call:FV):Prop:=∀ fv args st v st',call fv args st=some (v,st')→st'=st
theorem HeadC.keep {call:FV} (h:HeadC call) (F:Fl):LU F call:=fun _ _ _ _ _ a q => .of a (h _ _ _ _ _ q)
theorem O7 {l:List Oper}:∀ (is:List Nat) (e:Env) (st:St) (e2:Env) (s2:St),Fits F st→IZ P n l is e st=some (e2,s2)→Pre F st s2
 | [],e,st,e2,s2,hf,h=>by cases h;exact .refl hf
 | i::is,e,st,e2,s2,hf,h=>by
  simp only [IZ] at h
  split at h
  ·split at h
   ·split at h
    ·split at h
     ·exact (Pre.boxes _ hf).andThen fun a=>O7 is _ _ _ _ a h
     ·cases h
    ·cases h
   ·cases h
  ·cases h
theorem ML (h0:HeadC call0) (h1:LU F call) {l:List Oper} {hh:Nat} {ef:List Nat} {e:Env} {st:St} {e2:Env} {st':St} (hf:Fits F st) (h:O1 P n F C call0 call l hh ef e st=some (e2,st')):Pre F st st':=by
 unfold O1 at h
 split at h
 ·rw [Nb] at h
  split at h
  ·rename_i e1 s1 q
   have q1:=Lx (h0.keep F) _ _ _ _ _ hf q
   split at h
   ·rename_i had
    rw [Nb,Jh] at h
    have q2:=q1.trans (O7 _ _ _ _ _ q1.2 had)
    exact q2.trans (Lx h1 _ _ _ _ _ q2.2 h)
   ·cases h
  ·cases h
 ·cases h
theorem Xu (h1:LU F call) {l:List Oper} {o:Oper} {ev:Env} {s:St} {v:AV} {s':St} (hf:Fits F s) (h:Ui P l call F o ev s=some (v,s')):Pre F s s':=by
 unfold Ui at h
 split at h
 ·rw [Ja] at h
  obtain ⟨_,a⟩:=AN h
  obtain ⟨_,b⟩:=I0 _ _ a
  exact h1 _ _ _ _ _ hf b
 ·rw [Ja] at h
  obtain ⟨c,_,h⟩:=JP h
  have h:=Option.some.inj h
  have a:(evOp P (AA true l o ev) true s o.op).2.2=s':=congrArg Prod.snd h
  rw [←a]
  exact SD hf c
theorem O9 (h1:LU F call) {l:List Oper} {gl:TypeId→Nat→Option AV} {ms ef:List Nat} {e1:Env} {e2:Env} {s2:St}:∀ (is dn:List Nat) (ev:Env) (s:St),Fits F s→Jy P n F gl call0 call l ms ef e1 is dn ev s=some (e2,s2)→Pre F s s2
 | [],dn,ev,s,hf,h=>by
  simp only [Jy] at h
  split at h
  ·cases h;exact .refl hf
  ·cases h
 | i::is,dn,ev,s,hf,h=>by
  simp only [Jy] at h
  split at h
  ·split at h
   ·split at h
    ·split at h
     ·rename_i hs
      have q:Pre F s _:=Xu h1 hf hs
      exact q.trans (O9 h1 is _ _ _ q.2 h)
     ·cases h
    ·cases h
   ·cases h
  ·cases h
theorem Z8 (h1:LU F call) {l:List Oper} {gl:TypeId→Nat→Option AV} {ef:List Nat} {e:Env} {st:St} {e2:Env} {st':St} (hf:Fits F st) (h:Zbo P n F gl call0 call l ef e st=some (e2,st')):Pre F st st':=by
 unfold Zbo at h
 split at h
 ·split at h
  ·exact O9 h1 _ _ _ _ hf h
  ·cases h
 ·cases h
theorem ZA (h0:HeadC call0) (h1:LU F call) {l:List Oper} {draw:Bool} {e:Env} {st:St} {e2:Env} {st':St} (hf:Fits F st) (h:Xx P n F C call0 call l draw e st=some (e2,st')):Pre F st st':=by
 unfold Xx at h
 split at h
 ·split at h
  ·exact Lx h1 _ _ _ _ _ hf h
  ·exact Lx h1 _ _ _ _ _ hf h
 ·split at h
  ·exact ML h0 h1 hf h
  ·split at h
   ·exact ML h0 h1 hf h
   ·split at h
    ·exact ML h0 h1 hf h
    ·exact Z8 h1 hf h
theorem Jo (h0:HeadC call0) (h1:LU F call) {rf:Bool}:∀ (k:Nat) (c:Code) (e:Env) (st:St) (x:Exit) (e':Env) (st':St),Fits F st→FA P n rf F C call0 call k c e st=some (x,e',st')→Pre F st st'
 | 0,_,_,_,_,_,_,_,h=>by cases h
 | k+1,c,e,st,x,e',st',hf,h=>by
  have ih:=Jo h0 h1 (rf:=rf) k
  cases c with
  | skip=>cases h;exact .refl hf
  | region id ops draw =>
   simp only [FA,Js] at h
   split at h
   rotate_left
   ·cases h
   rename_i e2 s2 h2
   rw [WY] at h
   cases h
   have f:Pre F st (RA P F ops.toList e st).2:=ZaJ hf
   have d:=f.trans (ZQ (P:=P) (C:=C) (ops:=ops.toList) f.2)
   have p2:=d.trans (ZA h0 h1 d.2 h2)
   exact p2.trans (XO p2.2)
  | seq a b =>
   simp only [FA] at h
   split at h
   ·rename_i e1 s1 q
    have q1:=ih _ _ _ _ _ _ hf q
    exact q1.trans (ih _ _ _ _ _ _ q1.2 h)
   ·exact ih _ _ _ _ _ _ hf h
  | cond o a b =>
   simp only [FA] at h
   obtain ⟨_,h⟩:=AN h
   split at h
   ·exact ih _ _ _ _ _ _ hf h
   ·exact ih _ _ _ _ _ _ hf h
   ·cases h
  | block id b =>
   simp only [FA] at h
   split at h
   ·rename_i i e1 s1 q
    have q1:=ih _ _ _ _ _ _ hf q
    split at h
    ·cases h;exact q1
    ·cases h;exact q1
   ·exact ih _ _ _ _ _ _ hf h
  | loop b =>
   simp only [FA,TW] at h
   split at h
   ·rename_i e1 s1 q
    have q1:=ih _ _ _ _ _ _ hf q
    exact q1.trans (ih _ _ _ _ _ _ q1.2 h)
   ·exact ih _ _ _ _ _ _ hf h
  | rangeFunc g ps asg body =>
   simp only [FA,Jh,FD,NF] at h
   split at h
   rotate_left
   ·cases h
   split at h
   rotate_left
   ·cases h
   split at h
   rotate_left
   ·cases h
   rename_i v s3 q
   have f:Pre F st (st.push ⟨e,n,ps,asg,body,.ready,none,none⟩) := .loops _ hf
   have d:=h1 _ _ _ _ _ f.2 q
   split at h
   rotate_left
   ·cases h
   split at h
   rotate_left
   ·cases h
   have p2:=fun j=>(f.trans d).trans (Pre.loop j d.2 hf.2.2)
   split at h<;>first | (cases h;exact p2 _) | cases h
  | exit id=>cases h;exact .refl hf
  | ret=>cases h;exact .refl hf
  | _=>cases h
noncomputable def Lc (P:Program) (w0:World) (call:FV):Prop:=∀ fv args st v st',call fv args st=some (v,st')→FY P w0 fv args st fun r s=>r=v∧s=st'
theorem Vw (hm:P.follows .mixedOrders=true) (hn:n≤1000000) (hH:HeadC call0) (hcall0:Lc P w0 call0) (hcall:Lc P w0 call) (hgl:∀ t g x,C.gl t g=some x→I4 P w0 t g x)
  (l:List Oper) (draw:Bool) (id:Nat) (e:Env) (st:St) (e2:Env) (st':St) (h:Xx P n F C call0 call l draw e st=some (e2,st')):CX P w0 n M0 W0 ro (.region id l.toArray draw) (fun x e1 s1=>x = .normal∧e1=e2∧s1=st') e st:=by
 have f:∀ (d:Nat) (ef:List Nat),ef.Nodup→O1 P n F C call0 call l d ef e st=some (e2,st')→CX P w0 n M0 W0 ro (.region id l.toArray true) (fun x e1 s1=>x = .normal∧e1=e2∧s1=st') e st:=by
  intro d ef o h1
  unfold O1 at h1
  split at h1
  rotate_left
  ·cases h1
  rename_i hB
  unfold Zaa at hB
  rw [Bool.and_eq_true] at hB
  rw [Nb] at h1
  split at h1
  rotate_left
  ·cases h1
  rename_i e3 s3 h3
  split at h1
  rotate_left
  ·cases h1
  rename_i e4 s4 had
  rw [Nb,Jh] at h1
  have sub:∀ {e0:Env},Si e0 e→CX P w0 n M0 W0 ro (.region id l.toArray true) (fun x e1 s1=>x = .normal∧e1=e2∧s1=st') e0 st→CX P w0 n M0 W0 ro (.region id l.toArray true) (fun x e1 s1=>x = .normal∧e1=e2∧s1=st') e st :=
   fun hs h m M a w k=>h m M a w ⟨k.rel.sub hs,k.ext,k.marks⟩
  refine sub (XG (ZaS l ef) e) (KZ (C:=C) hn l _ (G5 hn l _ (Xw hm d ef (Jv ((BA ef 0 l).take d)+1) (Jv (l.drop d)+1) hB.1 hB.2 o ?_)))
  refine F7 (K:=fun e1 s1=>∃ b s2',IZ P n l ef e1 s1=some (b,s2')∧KJ P w0 n false l (fun b p=>Exit.normal=Exit.normal∧b=e2∧p=st') (Jv (l.drop d)+1) (l.drop d) b s2') (fun _=>hH) hcall0 hgl _ _ _ _ _ h3 ?_
  exact ⟨e4,s4,had,F7 (K:=fun c j=>Exit.normal=Exit.normal∧c=e2∧j=st') (fun q=>by cases q) hcall hgl _ _ _ _ _ h1 ⟨rfl,rfl,rfl⟩⟩
 have i:∀ h,(LR P l h).Nodup:=fun h=>List.filter_sublist.nodup List.nodup_range
 unfold Xx at h
 split at h
 ·split at h
  ·rename_i mt xs rest hl
   refine ZcK hl (Jv rest+1) ?_
   exact F7 (K:=fun c j=>Exit.normal=Exit.normal∧c=e2∧j=st') (fun q=>by cases q) hcall hgl rest _ _ _ _ h ⟨rfl,rfl,rfl⟩
  ·have go:∀ c,mkE C l e=c→CX P w0 n M0 W0 ro (.region id l.toArray false) (fun x e1 s1=>x = .normal∧e1=e2∧s1=st') c st→CX P w0 n M0 W0 ro (.region id l.toArray false) (fun x e1 s1=>x = .normal∧e1=e2∧s1=st') e st:=by
    intro c q h
    rcases ZgI C l e with q' | q'
    ·rw [q'] at q;subst q;exact h
    ·rw [q'] at q;subst q;exact KZ (C:=C) hn l e (G5 hn l _ h)
   refine go _ rfl (SG (Jv l+1) ?_)
   exact F7 (K:=fun c j=>Exit.normal=Exit.normal∧c=e2∧j=st') (fun q=>by cases q) hcall hgl l _ _ _ _ h ⟨rfl,rfl,rfl⟩
 ·split at h
  ·exact f _ _ (i _) h
  ·split at h
   ·exact f _ _ (i _) h
   ·split at h
    ·exact f _ _ .nil h
    ·exact KZ (C:=C) hn l e (ZC hm hH hcall0 hcall hgl h ⟨rfl,rfl,rfl⟩)
theorem IM (hm:P.follows .mixedOrders=true) (hn:n≤1000000) (hH:HeadC call0) (hcall0:Lc P w0 call0) (hcall:Lc P w0 call) (hgl:∀ t g x,C.gl t g=some x→I4 P w0 t g x) {rf:Bool} (hrf:rf=true→ro=none) :
  ∀ (k:Nat) (c:Code) (e:Env) (st:St) (x:Exit) (e':Env) (st':St) (Q:AQ),FA P n rf F C call0 call k c e st=some (x,e',st')→Q x e' st'→CX P w0 n M0 W0 ro c Q e st:=by
 intro k
 induction k using Nat.strongRecOn with
 | _ k ih =>
 intro c e st x e' st' Q h hq
 cases k with
 | zero=>cases h
 | succ k =>
 have ihk:=ih k (Nat.lt_succ_self k)
 cases c with
 | skip=>cases h;exact Ci hq
 | region id ops draw =>
  have D:ops=ops.toList.toArray:=by simp
  rw [D]
  simp only [FA,Js] at h
  split at h
  rotate_left
  ·cases h
  rename_i e2 s2 h2
  rw [WY] at h
  cases h
  refine Pe (Yb w0 P F ops.toList e st) (Pe (XZ w0 P F C ops.toList _) (KC (Vw hm hn hH hcall0 hcall hgl ops.toList draw id _ _ e2 s2 h2) ?_))
  rintro x e1 s1 ⟨rfl,rfl,rfl⟩
  exact ⟨_,_,(RH w0 C.m ops.toList e1 s1).trans (U9 w0 F ops.toList st.rows.length _ s1),hq⟩
 | seq a b =>
  simp only [FA] at h
  refine Am fun K l=>?_
  split at h
  ·rename_i e1 s1 h1
   exact ihk a e st _ _ _ _ h1 (l _ _ (ihk b _ _ _ _ _ _ h hq))
  ·rename_i hne
   refine ihk a e st _ _ _ _ h ?_
   cases x with
   | normal=>exact absurd h (hne _ _)
   | _=>exact hq
 | cond o a b =>
  simp only [FA] at h
  obtain ⟨ho,h⟩:=AN h
  split at h
  ·rename_i hv
   exact BF true ho hv (fun _=>ihk a _ _ _ _ _ _ h hq) (fun q=>by cases q)
  ·rename_i hv
   exact BF false ho hv (fun q=>by cases q) (fun _=>ihk b _ _ _ _ _ _ h hq)
  ·cases h
 | block id b =>
  simp only [FA] at h
  refine As ?_
  split at h
  ·rename_i i e1 s1 h1
   split at h
   ·rename_i q
    cases h
    refine ihk b _ _ _ _ _ _ h1 ?_
    simp only [Jz]
    rw [Ah q];exact hq
   ·rename_i q
    cases h
    refine ihk b _ _ _ _ _ _ h1 ?_
    simp only [Jz]
    rw [Ai q];exact hq
  ·rename_i hne
   refine ihk b _ _ _ _ _ _ h ?_
   cases x with
   | exit i=>exact absurd h (hne _ _ _)
   | _=>exact hq
 | loop b =>
  refine AP (fun m e s=>m≤k+1∧FA P n rf F C call0 call m (.loop b) e s=some (x,e',st')) (k+1) ⟨Nat.le_refl _,h⟩ ?_
  rintro m e1 s1 ⟨y,h1⟩ K l
  cases m with
  | zero=>cases h1
  | succ m =>
   simp only [FA,TW] at h1
   have f:=ih m (by omega)
   refine fun z M a w u=>(?_:CX P w0 n M0 W0 ro b _ (UF C.m e1) s1) z M a w ⟨u.rel.sub (XN C.m e1),u.ext,u.marks⟩
   split at h1
   ·rename_i e2 s2 h2
    exact f b _ _ _ _ _ _ h2 (l m _ _ (Nat.lt_succ_self m) ⟨by omega,h1⟩)
   ·rename_i hne
    refine f b _ _ _ _ _ _ h1 ?_
    cases x with
    | normal=>exact absurd h1 (hne _ _)
    | _=>exact hq
 | rangeFunc g ps asg body =>
  simp only [FA,Jh,FD,NF] at h
  split at h
  rotate_left
  ·cases h
  rename_i hg
  obtain rfl:=hrf hg.1
  split at h
  rotate_left
  ·cases h
  rename_i gf caps hgv
  split at h
  rotate_left
  ·cases h
  rename_i v s3 hc
  have hv:=hcall _ _ _ _ _ hc
  split at h
  rotate_left
  ·cases h
  rename_i la hla
  split at h
  rotate_left
  ·cases h
  rename_i hk
  have r:la.keys=none:=Option.isNone_iff_eq_none.1 hk.1
  have p:la.st ≠ .busy:=fun q=>by have:=hk.2;rw [q] at this;cases this
  have d:=fun hq j=>VC (M0:=M0) (W0:=W0) (Q:=Q) hg.2 hgv (ACalls.mono hv fun _ _ q=>q.2) hla r p hq j
  split at h
  ·rename_i hp
   cases h
   refine d (fun ex q=>?_) ⟨.normal,by rw [hp];rfl⟩
   rw [hp] at q
   cases ex<;>first | exact hq | cases q
  ·rename_i hp
   cases h
   refine d (fun ex q=>?_) ⟨.ret,by rw [hp];rfl⟩
   rw [hp] at q
   cases ex<;>first | exact hq | cases q
  ·rename_i id hp
   cases h
   refine d (fun ex q=>?_) ⟨.exit id,by rw [hp];rfl⟩
   rw [hp] at q
   cases ex<;>first | (cases q;done) | (cases q;exact hq)
  ·cases h
 | exit id=>cases h;exact HY hq
 | ret=>cases h;exact Bt hq
 | _=>cases h
end
noncomputable def Zls (P:Program) (e:Env) (st:St):ResultVar→AV
 | .tmp t=>Ap e (.tmp t)
 | .cell t ty=>(evOp P e true st (.load ty (.tmp t))).2.1
noncomputable def Zk (P:Program) (rs:List ResultVar) (e:Env) (st:St):List Nat:=rs.flatMap fun r=>Vk 60 (Zls P e st r)
noncomputable def Zjx (rs:List ResultVar):List Nat:=rs.map fun r=>match r with | .tmp t=>t | .cell t _=>t
noncomputable def Zf7 (P:Program) (F:Fl) (rs:List ResultVar) (e:Env) (st:St):Bool := !((Zk P rs e st).filter (Nat.ble F.r)).isEmpty
noncomputable def I8 (P:Program) (F:Fl) (keep:Bool) (rs:List ResultVar) (e:Env) (st:St):Env × St:=if keep=true then (e,st) else fE (Do (Zjx rs) e) fun e=>Hj F (Zk P rs) 40 e st
theorem Ya (w0:World) (P:Program) (F:Fl) (keep:Bool) (rs:List ResultVar) (e:Env) (st:St):ConvE w0 e st (I8 P F keep rs e st).1 (I8 P F keep rs e st).2:=by
 unfold I8
 split
 ·exact .refl _ _ _
 ·rw [Nb]
  exact ConvE.trans (fun n M a w h=>⟨M,.refl _ _ _,h.sub (Fz _ e)⟩) (IF w0 F _ _ _ _)
theorem TC {P:Program} {F:Fl} {keep:Bool} {rs:List ResultVar} {e:Env} {st:St} (hf:Fits F st):Pre F st (I8 P F keep rs e st).2:=by
 unfold I8
 split
 ·exact .refl hf
 ·rw [Nb];exact Jq _ _ _ _ hf
noncomputable def V9:List Bool:=List.replicate 40 false
noncomputable def Zd8 (st:St) (r:AV) (s:St):AV × St :=
 if Nat.ble st.boxes.length s.boxes.length&&Nat.ble st.rows.length s.rows.length&&Nat.ble st.loops.length s.loops.length&&FO st.boxes.length st.rows.length st.loops.length 60 r&&WH st.boxes.length st.rows.length st.loops.length (s.cut st.boxes.length st.rows.length st.loops.length)
 then (r,s.cut st.boxes.length st.rows.length st.loops.length) else (r,s)
noncomputable def fQ {β:Type} (deepq:Bool) (v:AV) (k:AV→β):β:=match deepq with | true=>fA 60 v k | false=>fT v k
theorem ZE {β:Type} (deepq:Bool) (v:AV) (k:AV→β):fQ deepq v k=k v:=by
 cases deepq
 ·exact Ziz _ _
 ·exact LL 60 v k
noncomputable def Nl {α:Type} (a b:List α):Bool:=HV a fun n=>HV b fun m=>Nat.ble (Nat.add n 40) m
noncomputable def Zga (g:Bool) (st:St) (r:AV) (s:St):AV × St:=match g with | true=>ZdT st r s | false=>(r,s)
noncomputable def Zhb (g:Bool) (st:St) (r:AV) (s:St):AV × St:=match g with | true=>Zd8 st r s | false=>(r,s)
noncomputable def Zc2 (deepq:Bool) (x:AV × St):Option (AV × St):=match x with | (v,s)=>fQ deepq v fun v=>UH s fun s=>some (v,s)
theorem JX (deepq:Bool) (x:AV × St):Zc2 deepq x=some x:=by
 obtain ⟨v,s⟩:=x
 show (fQ deepq v fun v=>UH s fun s=>some (v,s))=_
 rw [ZE,Jh]
noncomputable def VF (P:Program) (pu keep deepq:Bool) (st:St) (rs:List ResultVar) (x:Env × St):Option (AV × St) :=
 if ∀ r∈rs,resOk P x.1 x.2 r then match pu with
  | true=>fQ deepq (KU (rs.map (PH P x.1 x.2))).pubA fun v=>if FO st.boxes.length st.rows.length st.loops.length 60 v=true then some (v,st) else none
  | false=>match keep with
   | true=>Zc2 deepq (Zhb (Nl st.boxes x.2.boxes||Nl st.rows x.2.rows) st (pubS V9 (KU (rs.map (RS P x.1 x.2)))) x.2)
   | false=>Zc2 deepq (Zga (Nl st.boxes x.2.boxes||Nl st.rows x.2.rows) st (KU (rs.map (PH P x.1 x.2))) x.2)
 else none
theorem Zbk {F:Fl} {st s:St} {r:AV} (hf:Fits F st) (h:Pre F st s):Pre F st (ZdT st r s).2:=by
 unfold ZdT
 split
 ·rename_i hq
  simp only [Bool.and_eq_true] at hq
  obtain ⟨⟨⟨⟨q1,q2⟩,q3⟩,a⟩,c⟩:=hq
  have q1:=Nat.le_of_ble_eq_true q1
  have q2:=Nat.le_of_ble_eq_true q2
  have q3:=Nat.le_of_ble_eq_true q3
  refine ⟨⟨?_,?_,?_⟩,?_,?_,?_⟩
  ·show (s.boxes.take st.boxes.length).take F.b=_
   rw [List.take_take,Nat.min_eq_left hf.1]
   exact h.1.1
  ·show (s.rows.take st.rows.length).take F.r=_
   rw [List.take_take,Nat.min_eq_left hf.2.1]
   exact h.1.2.1
  ·show (s.loops.take st.loops.length).take F.l=_
   rw [List.take_take,Nat.min_eq_left hf.2.2]
   exact h.1.2.2
  ·have:=hf.1;simp [St.cut];omega
  ·have:=hf.2.1;simp [St.cut];omega
  ·have:=hf.2.2;simp [St.cut];omega
 ·exact h
theorem ACalls.finPure {P:Program} {w0:World} {f:FuncId} {args:List AV} {st s0:St} {v0:AV} (h:ACalls P w0 f args st fun r s=>r=v0∧s=s0) (hp:Pre st.fl st s0) (hu:Under st.boxes.length st.rows.length st.loops.length v0.pubA):ACalls P w0 f args st fun r s=>r=v0.pubA∧s=st:=by
 refine ⟨h.1,fun M w d a c=>(h.2 M w d a c).mono ?_⟩
 rintro en o ⟨v,M',r,e,n,⟨rfl,rfl⟩,h3,h4,h5⟩
 have j:=hp.cut
 obtain ⟨i,m,g⟩:=hp.2
 have k:=h4.cut i m g (by rw [show e.cut st.fl.b st.fl.r st.fl.l=st from j];exact a.calm)
 rw [show e.cut st.fl.b st.fl.r st.fl.l=st from j] at k
 exact ⟨v,M'.cut st.boxes.length st.rows.length st.loops.length,r.pubA,st,n,⟨rfl,rfl⟩,h3.cut (by have:=a.N;omega) (by have:=a.NR;omega) (by have:=a.loop.NL;omega) (by rw [h4.loop.NL];exact g) (by rw [h4.N];exact i) (by rw [h4.NR];exact m),k,h5.pubA.cut (by rw [h4.loop.NL];exact g) hu⟩
theorem Zbc {F:Fl} {st s:St} {r:AV} (hf:Fits F st) (h:Pre F st s):Pre F st (Zd8 st r s).2:=by
 unfold Zd8
 split
 ·rename_i hq
  simp only [Bool.and_eq_true] at hq
  obtain ⟨⟨⟨⟨q1,q2⟩,q3⟩,a⟩,c⟩:=hq
  have q1:=Nat.le_of_ble_eq_true q1
  have q2:=Nat.le_of_ble_eq_true q2
  have q3:=Nat.le_of_ble_eq_true q3
  refine ⟨⟨?_,?_,?_⟩,?_,?_,?_⟩
  ·show (s.boxes.take st.boxes.length).take F.b=_
   rw [List.take_take,Nat.min_eq_left hf.1]
   exact h.1.1
  ·show (s.rows.take st.rows.length).take F.r=_
   rw [List.take_take,Nat.min_eq_left hf.2.1]
   exact h.1.2.1
  ·show (s.loops.take st.loops.length).take F.l=_
   rw [List.take_take,Nat.min_eq_left hf.2.2]
   exact h.1.2.2
  ·have:=hf.1;simp [St.cut];omega
  ·have:=hf.2.1;simp [St.cut];omega
  ·have:=hf.2.2;simp [St.cut];omega
 ·exact h
theorem Zc {F:Fl} {st s:St} {r:AV} (g:Bool) (hf:Fits F st) (h:Pre F st s):Pre F st (Zga g st r s).2:=by
 cases g
 ·exact h
 ·exact Zbk hf h
theorem Zaw {F:Fl} {st s:St} {r:AV} (g:Bool) (hf:Fits F st) (h:Pre F st s):Pre F st (Zhb g st r s).2:=by
 cases g
 ·exact h
 ·exact Zbc hf h
theorem ACalls.finU {P:Program} {w0:World} {f:FuncId} {args:List AV} {st:St} {Post:AV→St→Prop} (h:ACalls P w0 f args st fun r s=>st.boxes.length≤s.boxes.length∧st.rows.length≤s.rows.length∧st.loops.length≤s.loops.length∧Calm st.boxes.length st.rows.length st.loops.length (s.cut st.boxes.length st.rows.length st.loops.length)∧Under st.boxes.length st.rows.length st.loops.length r∧Post r (s.cut st.boxes.length st.rows.length st.loops.length)):ACalls P w0 f args st Post:=by
 refine ⟨h.1,fun M w c a b=>(h.2 M w c a b).mono ?_⟩
 rintro en n ⟨v,M',r,i,k,⟨d,e,g,j,m,l⟩,h3,h4,h5⟩
 exact ⟨v,M'.cut st.boxes.length st.rows.length st.loops.length,r,_,k,l,h3.cut (by have:=a.N;omega) (by have:=a.NR;omega) (by have:=a.loop.NL;omega) (by rw [h4.loop.NL];exact g) (by rw [h4.N];exact d) (by rw [h4.NR];exact e),h4.cut d e g j,h5.cut (by have:=h4.loop.NL;omega) m⟩
abbrev TK:=Option Fl→FuncId→List AV→St→Option (AV × St)
noncomputable def Qq (C:Cfg) (rx:TK) (F:Fl):FV:=fun fv args st=>match fv with
 | .clo f cs=>if C.im f=true then rx (some F) f (args++cs) st else rx none f (args++cs) st
 | _=>none
noncomputable def Ib (rx:TK):FV:=fun fv args st=>match fv with
 | .clo f cs=>rx none f (args++cs) st
 | _=>none
noncomputable def UT (P:Program) (C:Cfg) (rx:TK) (F:Fl) (i:Nat) (x:List AV) (st:St):Option (AV × St) :=
 match st.loops[i]? with
 | some la=>if la.keys.isNone=true∧Zdt la.st=true∧la.pend.isNone=true∧x.length=la.ps.size∧(∀ p∈la.ps.toList,p<la.n)∧la.n≤1000000∧F.b≤st.boxes.length∧F.r≤st.rows.length then
   fEN (Nh la.e la.ps.toList x) fun e0=>match P4 P la.n false ⟨F.b,F.r,i+1⟩ C (Ib rx) (Qq C rx ⟨F.b,F.r,i+1⟩) C.q la.asg e0 st with
   | some (.normal,e1,s1)=>UH { s1 with loops:=s1.loops.set i (RE la .busy none) } fun s1=>match P4 P la.n false ⟨F.b,F.r,i+1⟩ C (Ib rx) (Qq C rx ⟨F.b,F.r,i+1⟩) C.q la.body e1 s1 with
    | some (ex,_,s2)=>match Iu ex with
     | some jump=>fB jump.isNone fun jn=>UH { s2 with loops:=s2.loops.set i (RE la (if jn then .ready else .done) jump) } fun s3=>some (.val (.bool jn),s3)
     | none=>none
    | none=>none
   | _=>none
  else none
 | none=>none
noncomputable def Jn (P:Program) (C:Cfg) (rx:TK) (F:Fl):FV:=fun fv args st=>match fv with
 | .clo f cs=>if C.im f=true then rx (some F) f (args++cs) st else rx none f (args++cs) st
 | .yld i=>if Nat.ble F.l i=true then UT P C.m0 rx F i args st else none
 | _=>none
noncomputable def flK {β:Type} (mo:Option Fl) (st:St) (k:Fl→β):β:=Option.rec (motive:=fun _=>β) (HV st.boxes fun b=>HV st.rows fun r=>HV st.loops fun l=>k ⟨b,r,l⟩) (fun F=>k F) mo
theorem SA {β:Type} (mo:Option Fl) (st:St) (k:Fl→β):flK mo st k=k (mo.getD st.fl):=by
 cases mo with
 | none=>show HV st.boxes (fun b=>HV st.rows fun r=>HV st.loops fun l=>k ⟨b,r,l⟩)=_;rw [FD,FD,FD];rfl
 | some F=>rfl
noncomputable def Q7 (P:Program) (C:Cfg) (mo:Option Fl) (f:FuncId) (fn:Func) (F:Fl) (st:St) (e:Env) (s:St):Option (AV × St):=VF P mo.isNone (mo.isSome&&C.kp f) (Zf7 P F fn.results.toList e s) st fn.results.toList (I8 P F (mo.isSome&&C.kp f) fn.results.toList e s)
noncomputable def SK (P:Program) (C:Cfg) (rx:TK) (mo:Option Fl) (f:FuncId) (fn:Func) (c:Code) (args:List AV) (st:St) (F:Fl):Option (AV × St) :=
 fEN (AM 0 args) fun e0=>match P4 P fn.ntmps true F (C.at f (HW fn c)) (Ib rx) (Jn P (C.at f (HW fn c)) rx F) C.q c e0 st with
  | some (.normal,e',s')=>Q7 P C mo f fn F st e' s'
  | some (.ret,e',s')=>Q7 P C mo f fn F st e' s'
  | _=>none
noncomputable def Z9 (x:Option (AV × St)) (k:Option (AV × St)):Option (AV × St):=match x with
 | some y=>Zc2 false y
 | none=>k
noncomputable def Zjm (C:Cfg) (mo:Option Fl) (f:FuncId) (args:List AV) (st:St):Option (AV × St):=Option.rec (motive:=fun _=>Option (AV × St)) none (fun F=>C.exs F f args st) mo
noncomputable def Hg (P:Program) (C:Cfg):Nat→TK
 | 0=>fun _ _ _ _=>none
 | k+1=>fun mo f args st=>match C.ext f args with
  | some v=>some (v,st)
  | none=>Z9 (Zjm C mo f args st) <| match P.funcs[f]? with
   | some fn=>match fn.body with
    | some c =>
     if fn.name ≠ "runtime.NumGoroutine" ∧ args.length≤fn.ntmps∧fn.ntmps≤1000000 then
      flK mo st (SK P C (Hg P C k) mo f fn c args st)
     else none
    | none=>none
   | none=>none
structure RunOk (P:Program) (w0:World) (rx:TK):Prop where
 ok:∀ mo f args st v st',rx mo f args st=some (v,st')→ACalls P w0 f args st fun r s=>r=v∧s=st'
 pre:∀ F f args st v st',Fits F st→rx (some F) f args st=some (v,st')→Pre F st st'
 hold:∀ f args st v st',rx none f args st=some (v,st')→st'=st
section
variable {P:Program} {w0:World} {C:Cfg} {rx:TK}
theorem SE (h:RunOk P w0 rx) (F:Fl):Lc P w0 (Qq C rx F):=by
 intro b args st v a q
 unfold Qq at q
 split at q
 ·split at q
  ·exact h.ok _ _ _ _ _ _ q
  ·exact h.ok _ _ _ _ _ _ q
 ·cases q
theorem N2 (h:RunOk P w0 rx) (F:Fl):LU F (Qq C rx F):=by
 intro c args st v b a q
 unfold Qq at q
 split at q
 ·split at q
  ·exact h.pre _ _ _ _ _ _ a q
  ·exact .of a (h.hold _ _ _ _ _ q)
 ·cases q
theorem Ll (h:RunOk P w0 rx):Lc P w0 (Ib rx):=by
 intro b args st v a q
 unfold Ib at q
 split at q
 ·exact h.ok _ _ _ _ _ _ q
 ·cases q
theorem Ey (h:RunOk P w0 rx):HeadC (Ib rx):=by
 intro b args st v a q
 unfold Ib at q
 split at q
 ·exact h.hold _ _ _ _ _ q
 ·cases q
theorem M6 (hm:P.follows .mixedOrders=true) (hgl:∀ t g x,C.gl t g=some x→I4 P w0 t g x) (h:RunOk P w0 rx) {F:Fl} {i:Nat} {x:List AV} {st:St} {v:AV} {st':St} (q:UT P C rx F i x st=some (v,st')) :
  (Kx P w0 i x st fun r s=>r=v∧s=st')∧(F.l≤i→Fits F st→Pre F st st'):=by
 unfold UT at q
 simp only [Lp] at q
 split at q
 rotate_left
 ·cases q
 rename_i la hla
 have d:i<st.loops.length:=(Aj.1 hla).1
 split at q
 rotate_left
 ·cases q
 rename_i hc
 obtain ⟨w,c2,y,z,p,m,D,n⟩:=hc
 rw [N5] at q
 split at q
 rotate_left
 ·cases q
 rename_i e1 s1 h1
 rw [Jh,NF] at q
 split at q
 rotate_left
 ·cases q
 rename_i ex e2 s2 h2
 split at q
 rotate_left
 ·cases q
 rename_i jump hj
 rw [H5,Jh,NF] at q
 cases q
 have c:=Jo (F:=⟨F.b,F.r,i+1⟩) (Ey h) (N2 h _) _ _ _ _ _ _ _ ⟨D,n,d⟩ h1
 have a:i<s1.loops.length:=Nat.lt_of_lt_of_le (Nat.lt_succ_self i) c.2.2.2
 have e:Fits ⟨F.b,F.r,i+1⟩ { s1 with loops:=s1.loops.set i { la with st := .busy,pend:=none } }:=⟨c.2.1,c.2.2.1,by simp only [List.length_set];exact a⟩
 have f:=Jo (F:=⟨F.b,F.r,i+1⟩) (Ey h) (N2 h _) _ _ _ _ _ _ _ e h2
 have u:la.st = .ready:=by
  cases hs:la.st<;>first | rfl | (rw [hs] at c2;cases c2)
 have hs1:s1.loops[i]? = some la:=(c.get (Nat.lt_succ_self i)).trans hla
 have hs2:s2.loops[i]? = some { la with st := .busy,pend:=none }:=by
  rw [f.get (Nat.lt_succ_self i)]
  exact List.getElem?_set_self a
 refine ⟨ZcR hla (Option.isNone_iff_eq_none.1 w) u (Option.isNone_iff_eq_none.1 y) z p (fun M0 W0 l=>IM hm m (Ey h) (Ll h) (SE h _) hgl (fun q=>by cases q) _ _ _ _ _ _ _ _ h1 ⟨rfl,rfl,rfl⟩) hs1
  (fun M0 W0 l=>IM hm m (Ey h) (Ll h) (SE h _) hgl (fun q=>by cases q) _ _ _ _ _ _ _ _ h2 ⟨rfl,rfl⟩) hs2 hj,fun f1 hf=>?_⟩
 have le:F.le ⟨F.b,F.r,i+1⟩:=⟨Nat.le_refl _,Nat.le_refl _,Nat.le_succ_of_le f1⟩
 have k:=c.mono le
 have o:Pre F s1 { s1 with loops:=s1.loops.set i { la with st := .busy,pend:=none } } := .loop _ k.2 f1
 have j:=f.mono le
 exact ((k.trans o).trans j).trans (.loop _ j.2 f1)
theorem Tf (hm:P.follows .mixedOrders=true) (hgl:∀ t g x,C.gl t g=some x→I4 P w0 t g x) (h:RunOk P w0 rx) (F:Fl):Lc P w0 (Jn P C rx F):=by
 intro b args st v a q
 unfold Jn at q
 split at q
 ·split at q
  ·exact h.ok _ _ _ _ _ _ q
  ·exact h.ok _ _ _ _ _ _ q
 ·split at q
  ·exact (M6 (C:=C.m0) hm hgl h q).1
  ·cases q
 ·cases q
theorem Px (hm:P.follows .mixedOrders=true) (hgl:∀ t g x,C.gl t g=some x→I4 P w0 t g x) (h:RunOk P w0 rx) (F:Fl):LU F (Jn P C rx F):=by
 intro c args st v b a q
 unfold Jn at q
 split at q
 ·split at q
  ·exact h.pre _ _ _ _ _ _ a q
  ·exact .of a (h.hold _ _ _ _ _ q)
 ·split at q
  ·rename_i hi
   exact (M6 (C:=C.m0) hm hgl h q).2 (Nat.le_of_ble_eq_true hi) a
  ·cases q
 ·cases q
theorem Wy (hm:P.follows .mixedOrders=true) (hgl:∀ t g x,C.gl t g=some x→I4 P w0 t g x)
  (hext:∀ f args v st,C.ext f args=some v→ACalls P w0 f args st fun r s=>r=v∧s=st)
  (hexs:∀ F f args st v st',C.exs F f args st=some (v,st')→(ACalls P w0 f args st fun r s=>r=v∧s=st')∧(Fits F st→Pre F st st')):∀ k:Nat,RunOk P w0 (Hg P C k)
 | 0=>⟨fun _ _ _ _ _ _ h=>(nomatch h),fun _ _ _ _ _ _ _ h=>(nomatch h),fun _ _ _ _ _ h=>(nomatch h)⟩
 | k+1=>by
  have ih:=Wy hm hgl hext hexs k
  refine ⟨fun mo f args st v st' h=>?_,fun F f args st v st' hf h=>?_,fun f args st v st' h=>?_⟩
  ·rw [Hg] at h;simp only [SA,SK,Q7,Lp] at h
   split at h
   ·rename_i r hv
    cases h
    exact hext _ _ _ _ hv
   unfold Z9 at h
   split at h
   ·rename_i y hy
    rw [JX] at h
    cases h
    cases mo with
    | none=>cases hy
    | some F=>exact (hexs F _ _ _ _ _ hy).1
   split at h
   rotate_left
   ·cases h
   rename_i fn hf
   split at h
   rotate_left
   ·cases h
   rename_i c hb
   split at h
   rotate_left
   ·cases h
   rename_i hc
   obtain ⟨m,l,j⟩:=hc
   have fin:∀ (x:Exit) (e':Env) (s':St),(x = .normal∨x = .ret)→FA P fn.ntmps true (mo.getD st.fl) (C.at f (HW fn c)) (Ib (Hg P C k)) (Jn P (C.at f (HW fn c)) (Hg P C k) (mo.getD st.fl)) C.q c (AM 0 args) st=some (x,e',s')→VF P mo.isNone (mo.isSome&&C.kp f) (Zf7 P (mo.getD st.fl) fn.results.toList e' s') st fn.results.toList (I8 P (mo.getD st.fl) (mo.isSome&&C.kp f) fn.results.toList e' s')=some (v,st') →
     ACalls P w0 f args st fun r s=>r=v∧s=st':=by
    intro x e' s' E b hret
    have hcv:=Ya w0 P (mo.getD st.fl) (mo.isSome&&C.kp f) fn.results.toList e' s'
    have hpre:mo=none→Pre st.fl st (I8 P (mo.getD st.fl) (mo.isSome&&C.kp f) fn.results.toList e' s').2:=fun hmo=>by
     subst hmo
     have i:=Jo (Ey ih) (Px (C:=C.at f (HW fn c)) hm hgl ih st.fl) _ _ _ _ _ _ _ (Fits.self st) b
     exact i.trans (TC i.2)
    generalize I8 P (mo.getD st.fl) (mo.isSome&&C.kp f) fn.results.toList e' s'=z at hret hcv hpre
    unfold VF at hret
    split at hret
    rotate_left
    ·cases hret
    rename_i hres
    have base:∀ a:AV→St→Prop,a (KU (fn.results.toList.map (PH P z.1 z.2))) z.2→ACalls P w0 f args st a:=fun a p =>
     Dz (rs:=fn.results.toList) hf hb (by simp) rfl (enters_of hf hb m) l (fun M0 W0 _ _ _ _ _=>KC (Q':=fun o e1 n=>o=x∧e1=e'∧n=s') (IM (C:=C.at f (HW fn c)) hm j (Ey ih) (Ll ih) (Tf (C:=C.at f (HW fn c)) hm hgl ih _) hgl (fun _=>rfl) C.q c _ _ _ _ _ _ b ⟨rfl,rfl,rfl⟩) (by
      rintro o e1 n ⟨rfl,rfl,rfl⟩
      refine ⟨z.1,z.2,hcv,?_⟩
      rcases E with rfl | rfl<;>exact ⟨hres,p⟩))
    cases mo with
    | none =>
     simp only [Option.isNone] at hret
     rw [ZE] at hret
     split at hret
     ·rename_i hu
      cases hret
      exact ACalls.finPure (base _ ⟨rfl,rfl⟩) (hpre rfl) (DG _ _ hu)
     ·cases hret
    | some F =>
     simp only [Option.isNone] at hret
     split at hret
     ·have d:∀ a:AV→St→Prop,a (pubS V9 (KU (fn.results.toList.map (RS P z.1 z.2)))) z.2→ACalls P w0 f args st a:=fun a p =>
       VK (mk:=V9) (rs:=fn.results.toList) hf hb (by simp) rfl (enters_of hf hb m) l (fun M0 W0 _ _ _ _ _=>KC (Q':=fun o e1 n=>o=x∧e1=e'∧n=s') (IM (C:=C.at f (HW fn c)) hm j (Ey ih) (Ll ih) (Tf (C:=C.at f (HW fn c)) hm hgl ih _) hgl (fun _=>rfl) C.q c _ _ _ _ _ _ b ⟨rfl,rfl,rfl⟩) (by
        rintro o e1 n ⟨rfl,rfl,rfl⟩
        refine ⟨z.1,z.2,hcv,?_⟩
        rcases E with rfl | rfl<;>exact ⟨hres,p⟩))
      rw [JX] at hret
      have hcut:=Option.some.inj hret
      unfold Zhb at hcut
      split at hcut
      rotate_left
      ·cases hcut
       exact d _ ⟨rfl,rfl⟩
      unfold Zd8 at hcut
      split at hcut
      ·rename_i hq
       simp only [Bool.and_eq_true] at hq
       obtain ⟨⟨⟨⟨q1,q2⟩,q3⟩,w⟩,u⟩:=hq
       cases hcut
       exact ACalls.finU (d _ ⟨Nat.le_of_ble_eq_true q1,Nat.le_of_ble_eq_true q2,Nat.le_of_ble_eq_true q3,Oz u,DG _ _ w,rfl,rfl⟩)
      ·cases hcut
       exact d _ ⟨rfl,rfl⟩
     rw [JX] at hret
     have hcut:=Option.some.inj hret
     unfold Zga at hcut
     split at hcut
     rotate_left
     ·cases hcut
      exact base _ ⟨rfl,rfl⟩
     unfold ZdT at hcut
     split at hcut
     ·rename_i hq
      simp only [Bool.and_eq_true] at hq
      obtain ⟨⟨⟨⟨q1,q2⟩,q3⟩,w⟩,u⟩:=hq
      cases hcut
      exact ACalls.finP (base _ ⟨Nat.le_of_ble_eq_true q1,Nat.le_of_ble_eq_true q2,Nat.le_of_ble_eq_true q3,Oz u,DG _ _ w,rfl,rfl⟩)
     ·cases hcut
      exact base _ ⟨rfl,rfl⟩
   rw [N5] at h
   split at h
   ·rename_i e' s' hr
    exact fin _ _ _ (.inl rfl) hr h
   ·rename_i e' s' hr
    exact fin _ _ _ (.inr rfl) hr h
   ·cases h
  ·rw [Hg] at h;simp only [SA,SK,Q7,Lp] at h
   split at h
   ·rename_i r hv
    cases h
    exact .refl hf
   unfold Z9 at h
   split at h
   ·rename_i y hy
    rw [JX] at h
    cases h
    exact (hexs F _ _ _ _ _ hy).2 hf
   split at h
   rotate_left
   ·cases h
   rename_i fn hfn
   split at h
   rotate_left
   ·cases h
   rename_i c hb
   split at h
   rotate_left
   ·cases h
   have fin:∀ (x:Exit) (e':Env) (s':St),FA P fn.ntmps true F (C.at f (HW fn c)) (Ib (Hg P C k)) (Jn P (C.at f (HW fn c)) (Hg P C k) F) C.q c (AM 0 args) st=some (x,e',s')→VF P false (C.kp f) (Zf7 P F fn.results.toList e' s') st fn.results.toList (I8 P F (C.kp f) fn.results.toList e' s')=some (v,st')→Pre F st st':=by
    intro x e' s' b hret
    have i:=Jo (Ey ih) (Px (C:=C.at f (HW fn c)) hm hgl ih F) _ _ _ _ _ _ _ hf b
    have D:=i.trans (TC (P:=P) (keep:=C.kp f) (rs:=fn.results.toList) (e:=e') i.2)
    unfold VF at hret
    split at hret
    ·simp only at hret
     split at hret
     ·rw [JX] at hret
      have:=Zaw (r:=pubS V9 (KU (fn.results.toList.map (RS P (I8 P F (C.kp f) fn.results.toList e' s').1 (I8 P F (C.kp f) fn.results.toList e' s').2)))) (Nl st.boxes (I8 P F (C.kp f) fn.results.toList e' s').2.boxes||Nl st.rows (I8 P F (C.kp f) fn.results.toList e' s').2.rows) hf D
      rw [Option.some.inj hret] at this
      exact this
     rw [JX] at hret
     have:=Zc (Nl st.boxes (I8 P F (C.kp f) fn.results.toList e' s').2.boxes||Nl st.rows (I8 P F (C.kp f) fn.results.toList e' s').2.rows) (r:=KU (fn.results.toList.map (PH P (I8 P F (C.kp f) fn.results.toList e' s').1 (I8 P F (C.kp f) fn.results.toList e' s').2))) hf D
     rw [Option.some.inj hret] at this
     exact this
    ·cases hret
   rw [N5] at h
   split at h
   ·rename_i e' s' hr
    exact fin _ _ _ hr (by simpa using h)
   ·rename_i e' s' hr
    exact fin _ _ _ hr (by simpa using h)
   ·cases h
  ·rw [Hg] at h;simp only [SA,SK,Q7,Lp] at h
   split at h
   ·cases h;rfl
   unfold Z9 at h
   split at h
   ·rename_i y hy
    cases hy
   split at h
   rotate_left
   ·cases h
   split at h
   rotate_left
   ·cases h
   split at h
   rotate_left
   ·cases h
   have fin:∀ {keep dq:Bool} (rs:List ResultVar) (z:Env × St),VF P true keep dq st rs z=some (v,st')→st'=st:=fun rs z hret=>by
    unfold VF at hret
    split at hret
    ·simp only at hret
     rw [ZE] at hret
     split at hret
     ·cases hret;rfl
     ·cases hret
    ·cases hret
   rw [N5] at h
   split at h
   ·exact fin _ _ h
   ·exact fin _ _ h
   ·cases h
theorem Vv (hm:P.follows .mixedOrders=true) (hgl:∀ t g x,C.gl t g=some x→I4 P w0 t g x)
  (hext:∀ f args v st,C.ext f args=some v→ACalls P w0 f args st fun r s=>r=v∧s=st)
  (hexs:∀ F f args st v st',C.exs F f args st=some (v,st')→(ACalls P w0 f args st fun r s=>r=v∧s=st')∧(Fits F st→Pre F st st')) (k:Nat) (mo:Option Fl) (f:FuncId) (args:List AV) (st:St) (v:AV) (st':St) (h:Hg P C k mo f args st=some (v,st')):ACalls P w0 f args st fun r s=>r=v∧s=st' :=
 (Wy hm hgl hext hexs k).ok _ _ _ _ _ _ h
end
end
end Go.Ev
namespace Go.Proofs
open Go.Shelf
def Tryz.lays119_ren:Go.Shelf.Ren:=⟨fun | 119=>317 | n=>n,fun | 21=>21 | 4=>4 | n=>n,fun | n=>n⟩
theorem Tryz.lays119:Go.Proofs.Lays.n119 Tryz.prog Tryz.lays119_ren:={
 mixed:=by kernel_rfl
 f119:=Tryz.func317.trans (congrArg some (by kernel_rfl))
 t4:=Tryz.underlying4
 a4:=Tryz.isAgg4
 z4:=Tryz.sizeOf4
 v4:=Tryz.zeroValue4
 t21:=Tryz.underlying21
 a21:=Tryz.isAgg21
 z21:=Tryz.sizeOf21
 v21:=Tryz.zeroValue21 }
theorem Tryz.utf8_ValidRune (r:Int) (w:World) :
  Calls Tryz.prog 317 #[.int .i32 r] w fun e w'=>e = .returned (.bool (Lib.validRune r))∧w'=w:=Any.utf8_ValidRune Tryz.lays119 r w
def Tryz.lays137_ren:Go.Shelf.Ren:=⟨fun | 137=>316 | 217=>351 | 266=>368 | n=>n,fun | 9=>9 | 5=>5 | 3=>3 | n=>n,fun | n=>n⟩
theorem Tryz.lays137:Go.Proofs.Lays.n137 Tryz.prog Tryz.lays137_ren:={
 mixed:=by kernel_rfl
 f137:=Tryz.func316.trans (congrArg some (by kernel_rfl))
 f217:=Tryz.func351.trans (congrArg some (by kernel_rfl))
 f266:=Tryz.func368.trans (congrArg some (by kernel_rfl))
 t3:=Tryz.underlying3
 a3:=Tryz.isAgg3
 z3:=Tryz.sizeOf3
 v3:=Tryz.zeroValue3
 t5:=Tryz.underlying5
 a5:=Tryz.isAgg5
 z5:=Tryz.sizeOf5
 v5:=Tryz.zeroValue5
 t9:=Tryz.underlying9
 a9:=Tryz.isAgg9
 z9:=Tryz.sizeOf9
 v9:=Tryz.zeroValue9 }
open Go.RowKit in
theorem Tryz.strings_IndexByte (s:ByteArray) (c:Int) (w:World) :
  Calls Tryz.prog 316 #[.string s,.int .u8 c] w fun e w'=>e = .returned (.int .i64 (Lib.indexByte s.data.toList c.toNat.toUInt8))∧w'=w:=Any.strings_IndexByte Tryz.lays137 s c w
def Tryz.lays145_ren:Go.Shelf.Ren:=⟨fun | 145=>237 | 220=>280 | 219=>320 | 217=>351 | 225=>319 | 224=>318 | 267=>352 | 266=>368 | 314=>369 | n=>n,fun | 9=>9 | 4=>4 | 59=>309 | 3=>3 | 5=>5 | 46=>177 | 146=>425 | 51=>221 | n=>n,fun | 1=>0 | n=>n⟩
theorem Tryz.lays145:Go.Proofs.Lays.n145 Tryz.prog Tryz.lays145_ren:={
 mixed:=by kernel_rfl
 f145:=Tryz.func237.trans (congrArg some (by kernel_rfl))
 f217:=Tryz.func351.trans (congrArg some (by kernel_rfl))
 f219:=Tryz.func320.trans (congrArg some (by kernel_rfl))
 f220:=Tryz.func280.trans (congrArg some (by kernel_rfl))
 f224:=Tryz.func318.trans (congrArg some (by kernel_rfl))
 f225:=Tryz.func319.trans (congrArg some (by kernel_rfl))
 f266:=Tryz.func368.trans (congrArg some (by kernel_rfl))
 f267:=Tryz.func352.trans (congrArg some (by kernel_rfl))
 f314:=Tryz.func369.trans (congrArg some (by kernel_rfl))
 t3:=Tryz.underlying3
 a3:=Tryz.isAgg3
 z3:=Tryz.sizeOf3
 v3:=Tryz.zeroValue3
 t4:=Tryz.underlying4
 a4:=Tryz.isAgg4
 z4:=Tryz.sizeOf4
 v4:=Tryz.zeroValue4
 t5:=Tryz.underlying5
 a5:=Tryz.isAgg5
 z5:=Tryz.sizeOf5
 v5:=Tryz.zeroValue5
 t9:=Tryz.underlying9
 a9:=Tryz.isAgg9
 z9:=Tryz.sizeOf9
 v9:=Tryz.zeroValue9
 t46:=Tryz.underlying177
 a46:=Tryz.isAgg177
 z46:=Tryz.sizeOf177
 v46:=Tryz.zeroValue177
 t51:=Tryz.underlying221
 a51:=Tryz.isAgg221
 z51:=Tryz.sizeOf221
 v51:=Tryz.zeroValue221
 t59:=Tryz.underlying309
 a59:=Tryz.isAgg309
 z59:=Tryz.sizeOf309
 v59:=Tryz.zeroValue309
 t146:=Tryz.underlying425
 a146:=Tryz.isAgg425
 z146:=Tryz.sizeOf425
 v146:=Tryz.zeroValue425
 g1:=by kernel_rfl }
open Go.RowKit Go.Lib in
theorem Tryz.strings_Cut (s sep:ByteArray) (m:Int) (w:World) (hs:s.size<4294967281) (hm:w.cell? ⟨0,0,none⟩=some (.int .i64 m)) :
  Calls Tryz.prog 237 #[.string s,.string sep] w fun e w'=>e = .returned (.tuple #[.string ⟨(Lib.cut s.data.toList sep.data.toList).1.toArray⟩,.string ⟨(Lib.cut s.data.toList sep.data.toList).2.1.toArray⟩,.bool (Lib.cut s.data.toList sep.data.toList).2.2])∧∃ n,w'=w.drewN n:=Any.strings_Cut Tryz.lays145 s sep m w hs hm
def Tryz.lays99_ren:Go.Shelf.Ren:=⟨fun | 99=>236 | 206=>279 | n=>n,fun | 9=>9 | 4=>4 | 3=>3 | n=>n,fun | n=>n⟩
theorem Tryz.lays99:Go.Proofs.Lays.n99 Tryz.prog Tryz.lays99_ren:={
 mixed:=by kernel_rfl
 f99:=Tryz.func236.trans (congrArg some (by kernel_rfl))
 f206:=Tryz.func279.trans (congrArg some (by kernel_rfl))
 t3:=Tryz.underlying3
 a3:=Tryz.isAgg3
 z3:=Tryz.sizeOf3
 v3:=Tryz.zeroValue3
 t4:=Tryz.underlying4
 a4:=Tryz.isAgg4
 z4:=Tryz.sizeOf4
 v4:=Tryz.zeroValue4
 t9:=Tryz.underlying9
 a9:=Tryz.isAgg9
 z9:=Tryz.sizeOf9
 v9:=Tryz.zeroValue9 }
open Go.RowKit Go.Lib in
theorem Tryz.strings_HasPrefix (s p:ByteArray) (w:World) :
  Calls Tryz.prog 236 #[.string s,.string p] w fun e w'=>e = .returned (.bool (Lib.hasPrefix s.data.toList p.data.toList))∧w'=w:=Any.strings_HasPrefix Tryz.lays99 s p w
def Tryz.lays152_ren:Go.Shelf.Ren:=⟨fun | 152=>275 | 137=>316 | 119=>317 | 224=>318 | 225=>319 | 217=>351 | 266=>368 | n=>n,fun | 9=>9 | 21=>21 | 3=>3 | 4=>4 | 5=>5 | 0=>0 | 46=>177 | n=>n,fun | n=>n⟩
theorem Tryz.lays152:Go.Proofs.Lays.n152 Tryz.prog Tryz.lays152_ren:={
 mixed:=by kernel_rfl
 f119:=Tryz.func317.trans (congrArg some (by kernel_rfl))
 f137:=Tryz.func316.trans (congrArg some (by kernel_rfl))
 f152:=Tryz.func275.trans (congrArg some (by kernel_rfl))
 f217:=Tryz.func351.trans (congrArg some (by kernel_rfl))
 f224:=Tryz.func318.trans (congrArg some (by kernel_rfl))
 f225:=Tryz.func319.trans (congrArg some (by kernel_rfl))
 f266:=Tryz.func368.trans (congrArg some (by kernel_rfl))
 t0:=Tryz.underlying0
 a0:=Tryz.isAgg0
 z0:=Tryz.sizeOf0
 v0:=Tryz.zeroValue0
 t3:=Tryz.underlying3
 a3:=Tryz.isAgg3
 z3:=Tryz.sizeOf3
 v3:=Tryz.zeroValue3
 t4:=Tryz.underlying4
 a4:=Tryz.isAgg4
 z4:=Tryz.sizeOf4
 v4:=Tryz.zeroValue4
 t5:=Tryz.underlying5
 a5:=Tryz.isAgg5
 z5:=Tryz.sizeOf5
 v5:=Tryz.zeroValue5
 t9:=Tryz.underlying9
 a9:=Tryz.isAgg9
 z9:=Tryz.sizeOf9
 v9:=Tryz.zeroValue9
 t21:=Tryz.underlying21
 a21:=Tryz.isAgg21
 z21:=Tryz.sizeOf21
 v21:=Tryz.zeroValue21
 t46:=Tryz.underlying177
 a46:=Tryz.isAgg177
 z46:=Tryz.sizeOf177
 v46:=Tryz.zeroValue177 }
open Go.RowKit Go.Lib in
theorem Tryz.strings_IndexRune_ascii (s:ByteArray) (r:Int) (w:World) (h0:0≤r) (h1:r<128) :
  Calls Tryz.prog 275 #[.string s,.int .i32 r] w fun e w'=>e = .returned (.int .i64 (Lib.indexByte s.data.toList r.toNat.toUInt8))∧w'=w:=Any.strings_IndexRune_ascii Tryz.lays152 s r w h0 h1
def Tryz.lays226_ren:Go.Shelf.Ren:=⟨fun | 226=>276 | n=>n,fun | 3=>3 | 4=>4 | n=>n,fun | n=>n⟩
theorem Tryz.lays226:Go.Proofs.Lays.n226 Tryz.prog Tryz.lays226_ren:={
 mixed:=by kernel_rfl
 f226:=Tryz.func276.trans (congrArg some (by kernel_rfl))
 t3:=Tryz.underlying3
 a3:=Tryz.isAgg3
 z3:=Tryz.sizeOf3
 v3:=Tryz.zeroValue3
 t4:=Tryz.underlying4
 a4:=Tryz.isAgg4
 z4:=Tryz.sizeOf4
 v4:=Tryz.zeroValue4 }
open Go.RowKit Go.Lib in
theorem Tryz.strings_shouldUseASCIISet (n:Int) (w:World) :
  Calls Tryz.prog 276 #[.int .i64 n] w fun e w'=>e = .returned (.bool (decide (8<n)))∧w'=w:=Any.strings_shouldUseASCIISet Tryz.lays226 n w
def Tryz.lays153_ren:Go.Shelf.Ren:=⟨fun | 153=>235 | 152=>275 | 226=>276 | 227=>277 | 228=>278 | 137=>316 | 119=>317 | 224=>318 | 225=>319 | 217=>351 | 266=>368 | n=>n,fun | 9=>9 | 3=>3 | 4=>4 | 5=>5 | 21=>21 | 117=>347 | 116=>346 | 0=>0 | 46=>177 | 124=>379 | n=>n,fun | n=>n⟩
theorem Tryz.lays153:Go.Proofs.Lays.n153 Tryz.prog Tryz.lays153_ren:={
 mixed:=by kernel_rfl
 f119:=Tryz.func317.trans (congrArg some (by kernel_rfl))
 f137:=Tryz.func316.trans (congrArg some (by kernel_rfl))
 f152:=Tryz.func275.trans (congrArg some (by kernel_rfl))
 f153:=Tryz.func235.trans (congrArg some (by kernel_rfl))
 f217:=Tryz.func351.trans (congrArg some (by kernel_rfl))
 f224:=Tryz.func318.trans (congrArg some (by kernel_rfl))
 f225:=Tryz.func319.trans (congrArg some (by kernel_rfl))
 f226:=Tryz.func276.trans (congrArg some (by kernel_rfl))
 f227:=Tryz.func277.trans (congrArg some (by kernel_rfl))
 f228:=Tryz.func278.trans (congrArg some (by kernel_rfl))
 f266:=Tryz.func368.trans (congrArg some (by kernel_rfl))
 t0:=Tryz.underlying0
 a0:=Tryz.isAgg0
 z0:=Tryz.sizeOf0
 v0:=Tryz.zeroValue0
 t3:=Tryz.underlying3
 a3:=Tryz.isAgg3
 z3:=Tryz.sizeOf3
 v3:=Tryz.zeroValue3
 t4:=Tryz.underlying4
 a4:=Tryz.isAgg4
 z4:=Tryz.sizeOf4
 v4:=Tryz.zeroValue4
 t5:=Tryz.underlying5
 a5:=Tryz.isAgg5
 z5:=Tryz.sizeOf5
 v5:=Tryz.zeroValue5
 t9:=Tryz.underlying9
 a9:=Tryz.isAgg9
 z9:=Tryz.sizeOf9
 v9:=Tryz.zeroValue9
 t21:=Tryz.underlying21
 a21:=Tryz.isAgg21
 z21:=Tryz.sizeOf21
 v21:=Tryz.zeroValue21
 t46:=Tryz.underlying177
 a46:=Tryz.isAgg177
 z46:=Tryz.sizeOf177
 v46:=Tryz.zeroValue177
 t116:=Tryz.underlying346
 a116:=Tryz.isAgg346
 z116:=Tryz.sizeOf346
 t117:=Tryz.underlying347
 a117:=Tryz.isAgg347
 z117:=Tryz.sizeOf347
 v117:=Tryz.zeroValue347
 t124:=Tryz.underlying379
 a124:=Tryz.isAgg379
 z124:=Tryz.sizeOf379
 v124:=Tryz.zeroValue379 }
open Go.RowKit Go.Lib in
theorem Tryz.strings_IndexAny_long (hv116:∀ w,(zeroValue 346).run Tryz.prog w = .ok (.agg (Array.replicate 256 (.bool false))) w) (s chars:ByteArray) (w:World) (h2:2≤chars.size) (h8:8<s.size) (hs:s.size<4294967281) (hcs:chars.size<4294967281) (hascii:∀ (j:Nat) b,chars.data.toList[j]? = some b→b.toNat<128) :
  Calls Tryz.prog 235 #[.string s,.string chars] w fun e w'=>e = .returned (.int .i64 (Lib.indexAny s.data.toList chars.data.toList))∧w'=((w.alloc (.cells (Lib.setCells chars.data.toList) 346)).alloc (.cells (Lib.setCells chars.data.toList) 346)):=Any.strings_IndexAny_long Tryz.lays153 hv116 (by kernel_rfl) s chars w h2 h8 hs hcs hascii
end Go.Proofs
namespace Go.Proofs
open Go.Shelf Go.RowKit Go.Lib Go
variable {P:Program} {ρ:Ren}
abbrev stops:ByteArray:=⟨#[46,91,63]⟩
theorem Tm:∀ (i:Nat) (h:i<stops.size),(stops[i]'h).toNat<128∧((stops[i]'h).toNat:Int)≠65533:=by decide
theorem Ze3 (n:Nat):128≤(UInt8.ofNat (128+n % 64)).toNat:=by rw [UInt8.toNat_ofNat'];omega
theorem W9 (r:Int) (h0:128≤r):(∃ a b,Utf8.encode r=⟨#[a,b]⟩∧128≤b.toNat)∨(∃ a b c,Utf8.encode r=⟨#[a,b,c]⟩∧128≤c.toNat)∨∃ a b c d,Utf8.encode r=⟨#[a,b,c,d]⟩:=by
 obtain ⟨c,hc,he⟩:∃ c:Nat,128≤c∧(if Utf8.valid r=true then r.toNat else Utf8.runeError)=c:=by
  by_cases h:Utf8.valid r=true
  ·exact ⟨r.toNat,by omega,by rw [Ah h]⟩
  ·exact ⟨Utf8.runeError,by decide,by rw [Ai h]⟩
 unfold Utf8.encode
 simp only [he]
 rw [Aa]
 by_cases h1:c<2048
 ·rw [Ah h1];exact .inl ⟨_,_,rfl,Ze3 _⟩
 rw [Ai h1]
 by_cases h2:c<65536
 ·rw [Ah h2];exact .inr (.inl ⟨_,_,_,rfl,Ze3 _⟩)
 ·rw [Ai h2];exact .inr (.inr ⟨_,_,_,_,rfl⟩)
set_option maxRecDepth 1000000 in
theorem U0 (L:Lays.n152 P ρ) (w:World) :
  Calls P (ρ.f 152) #[.string stops,.int .i32 65533] w fun e w'=>e = .returned (.int .i64 (-1))∧∃ pos,w'=w.iter stops pos:=by
 have t3:=L.t3;have a3:=L.a3;have z3:=L.z3;have v3:=L.v3
 have t4:=L.t4;have a4:=L.a4;have z4:=L.z4;have v4:=L.v4
 have t5:=L.t5;have a5:=L.a5;have z5:=L.z5;have v5:=L.v5
 have t9:=L.t9;have a9:=L.a9;have z9:=L.z9;have v9:=L.v9
 have t21:=L.t21;have a21:=L.a21;have z21:=L.z21;have v21:=L.v21
 go_enter L.f152,Body.n152_ntmps ρ
 go_wp2
 go_loopg [5,6] 3 (fun g _ _ wx=>∃ i:Nat,i+g=3∧wx=w.iter stops i)
 case atStart=>exact ⟨0,by omega,rfl⟩
 case round =>
  obtain ⟨i,hig,rfl⟩:=hrel
  cases gk with
  | zero =>
   obtain rfl:i=3:=by omega
   have hnx:=run_next_end (P:=P) w stops 3
   go_wp2
   go_ret
   exact ⟨rfl,_,rfl⟩
  | succ g =>
   have hi:i<stops.size:=by show i<3;omega
   obtain ⟨x,hx⟩:∃ x:UInt8,stops[i]'hi=x:=⟨_,rfl⟩
   obtain ⟨hx128,hxn⟩:=Tm i hi
   have hnx:=fun ty=>run_next_ascii (P:=P) w stops i ty hi hx128
   rw [hx] at hnx hxn
   have hb:((x.toNat:Int) == 65533)=false:=beq_eq_false_iff_ne.2 hxn
   go_wp2
   go_roundg g
   case measure=>omega
   case rel=>exact ⟨i+1,by omega,rfl⟩
set_option maxRecDepth 1000000 in
theorem ZG (L:Lays.n152 P ρ) (r:Int) (w:World) (h0:128≤r) (h1:r≠65533) (hv:Lib.validRune r=false) :
  Calls P (ρ.f 152) #[.string stops,.int .i32 r] w fun e w'=>e = .returned (.int .i64 (-1))∧Below w.heap.size w w':=by
 have t3:=L.t3;have a3:=L.a3;have z3:=L.z3;have v3:=L.v3
 have t4:=L.t4;have a4:=L.a4;have z4:=L.z4;have v4:=L.v4
 have t5:=L.t5;have a5:=L.a5;have z5:=L.z5;have v5:=L.v5
 have t9:=L.t9;have a9:=L.a9;have z9:=L.z9;have v9:=L.v9
 have t21:=L.t21;have a21:=L.a21;have z21:=L.z21;have v21:=L.v21
 have e119:∀ args w,(callFunc (ρ.f 119) args).run P w = .ok (.enter (ρ.f 119) args) w:=enters_of L.f119 (by kernel_rfl) rfl
 have hlt:¬ r<128:=by omega
 have hne:(r == 65533)=false:=beq_eq_false_iff_ne.2 h1
 go_enter L.f152,Body.n152_ntmps ρ
 go_wp2_with (go_at_fn (ρ.f 119);refine (Any.utf8_ValidRune { L with } _ _).mono ?_;rintro e w' ⟨rfl,hw⟩;rw [hw,hv])
 go_ret
 exact ⟨rfl,.refl _ _⟩
set_option maxRecDepth 1000000 in
theorem ZaF (L:Lays.n152 P ρ) (r:Int) (w:World) (h0:128≤r) (h1:r≠65533) (hv:Lib.validRune r=true) (a b:UInt8) (he:Utf8.encode r=⟨#[a,b]⟩) (hb:128≤b.toNat) :
  Calls P (ρ.f 152) #[.string stops,.int .i32 r] w fun e w'=>e = .returned (.int .i64 (-1))∧Below w.heap.size w w':=by
 have mixed:=L.mixed
 have t3:=L.t3;have a3:=L.a3;have z3:=L.z3;have v3:=L.v3
 have t4:=L.t4;have a4:=L.a4;have z4:=L.z4;have v4:=L.v4
 have t5:=L.t5;have a5:=L.a5;have z5:=L.z5;have v5:=L.v5
 have t9:=L.t9;have a9:=L.a9;have z9:=L.z9;have v9:=L.v9
 have t21:=L.t21;have a21:=L.a21;have z21:=L.z21;have v21:=L.v21
 have e119:∀ args w,(callFunc (ρ.f 119) args).run P w = .ok (.enter (ρ.f 119) args) w:=enters_of L.f119 (by kernel_rfl) rfl
 have e137:∀ args w,(callFunc (ρ.f 137) args).run P w = .ok (.enter (ρ.f 137) args) w:=enters_of L.f137 (by kernel_rfl) rfl
 have hlt:¬ r<128:=by omega
 have hne:(r == 65533)=false:=beq_eq_false_iff_ne.2 h1
 have hbn:(((stops[1]'(by decide)).toNat:Int) != (((⟨#[a,b]⟩:ByteArray)[1]'(by simp [ByteArray.size])).toNat:Int))=true:=bne_iff_ne.2 (by show (91:Int)≠(b.toNat:Int);omega)
 have hsum:IntKind.i64.wrap (1+1)=2:=by decide
 have hx:Lib.indexByte (stops.extract 2 3).data.toList ((((⟨#[a,b]⟩:ByteArray)[1]'(by simp [ByteArray.size])).toNat:Int)).toNat.toUInt8 = -1:=by
  show Lib.indexByte [63] (b.toNat:Int).toNat.toUInt8 = -1
  have e:(b.toNat:Int).toNat.toUInt8=b:=by simp
  rw [e]
  have hn:((63:UInt8) == b)=false:=beq_eq_false_iff_ne.2 (fun q=>by rw [←q] at hb;exact absurd hb (by decide))
  simp [Lib.indexByte,hn]
 go_enter L.f152,Body.n152_ntmps ρ
 go_wp2_with (first
  | (go_at_fn (ρ.f 119);refine (Any.utf8_ValidRune { L with } _ _).mono ?_;rintro e w' ⟨rfl,hw⟩;rw [hw,hv])
  | (go_at_fn (ρ.f 137);refine (Any.strings_IndexByte { L with } _ _ _).mono ?_;rintro e w' ⟨rfl,hw⟩;rw [hw]))
 go_step3
 go_wp2
 go_loopg [9] 1 (fun g s9 wx=>s9 = .int .i64 1∧wx=w)
 case atStart=>exact ⟨rfl,rfl⟩
 case round =>
  obtain ⟨rfl,rfl⟩:=hrel
  go_wp2
  go_step3
  go_wp2
  refine wp_region_quiet_lit mixed (by kernel_rfl) ?_
  repeat (first | go_big_quiet_step (fail) | quiet_step (fail))
  refine wpQuiet_nil ?_
  intro _ hw'
  obtain ⟨nq,hw''⟩:=hw'
  subst hw''
  go_wp2
  refine wp_region_quiet_lit mixed (by kernel_rfl) ?_
  repeat (first | go_big_quiet_step (fail) | quiet_step (fail))
  refine wpQuiet_step (fun K hK=>?_)
  go_simp
  refine ⟨_,fun q=>((Any.strings_IndexByte { L with } _ _ _).mono fun e w' h=>⟨h.1,q,h.2⟩),hK _ ?_⟩
  clear hK K
  repeat (first | go_big_quiet_step (fail) | quiet_step (fail))
  refine wpQuiet_nil ?_
  intro _ hw'
  obtain ⟨nq2,hw''⟩:=hw'
  subst hw''
  rw [hx]
  go_wp2
  go_simp
  try rw [Exit.noGoto_ret]
  go_ret
  exact ⟨rfl,⟨rfl,rfl,rfl,Nat.le_refl _,fun _ _=>rfl⟩⟩
set_option maxRecDepth 1000000 in
theorem VQ (L:Lays.n152 P ρ) (r:Int) (w:World) (h0:128≤r) (h1:r≠65533) (hv:Lib.validRune r=true) (a b c:UInt8) (he:Utf8.encode r=⟨#[a,b,c]⟩) (hb:128≤c.toNat) :
  Calls P (ρ.f 152) #[.string stops,.int .i32 r] w fun e w'=>e = .returned (.int .i64 (-1))∧Below w.heap.size w w':=by
 have mixed:=L.mixed
 have t3:=L.t3;have a3:=L.a3;have z3:=L.z3;have v3:=L.v3
 have t4:=L.t4;have a4:=L.a4;have z4:=L.z4;have v4:=L.v4
 have t5:=L.t5;have a5:=L.a5;have z5:=L.z5;have v5:=L.v5
 have t9:=L.t9;have a9:=L.a9;have z9:=L.z9;have v9:=L.v9
 have t21:=L.t21;have a21:=L.a21;have z21:=L.z21;have v21:=L.v21
 have e119:∀ args w,(callFunc (ρ.f 119) args).run P w = .ok (.enter (ρ.f 119) args) w:=enters_of L.f119 (by kernel_rfl) rfl
 have e137:∀ args w,(callFunc (ρ.f 137) args).run P w = .ok (.enter (ρ.f 137) args) w:=enters_of L.f137 (by kernel_rfl) rfl
 have hlt:¬ r<128:=by omega
 have hne:(r == 65533)=false:=beq_eq_false_iff_ne.2 h1
 have hbn:(((stops[2]'(by decide)).toNat:Int) != (((⟨#[a,b,c]⟩:ByteArray)[2]'(by simp [ByteArray.size])).toNat:Int))=true:=bne_iff_ne.2 (by show (63:Int)≠(c.toNat:Int);omega)
 have hsum:IntKind.i64.wrap (2+1)=3:=by decide
 have hx:Lib.indexByte ByteArray.empty.data.toList ((((⟨#[a,b,c]⟩:ByteArray)[2]'(by simp [ByteArray.size])).toNat:Int)).toNat.toUInt8 = -1:=by
  show Lib.indexByte [] (c.toNat:Int).toNat.toUInt8 = -1
  have e:(c.toNat:Int).toNat.toUInt8=c:=by simp
  rw [e]
  rfl
 go_enter L.f152,Body.n152_ntmps ρ
 go_wp2_with (first
  | (go_at_fn (ρ.f 119);refine (Any.utf8_ValidRune { L with } _ _).mono ?_;rintro e w' ⟨rfl,hw⟩;rw [hw,hv])
  | (go_at_fn (ρ.f 137);refine (Any.strings_IndexByte { L with } _ _ _).mono ?_;rintro e w' ⟨rfl,hw⟩;rw [hw]))
 go_step3
 go_wp2
 go_loopg [9] 1 (fun g s9 wx=>s9 = .int .i64 2∧wx=w)
 case atStart=>exact ⟨rfl,rfl⟩
 case round =>
  obtain ⟨rfl,rfl⟩:=hrel
  go_wp2
  go_step3
  go_wp2
  refine wp_region_quiet_lit mixed (by kernel_rfl) ?_
  repeat (first | go_big_quiet_step (fail) | quiet_step (fail))
  refine wpQuiet_nil ?_
  intro _ hw'
  obtain ⟨nq,hw''⟩:=hw'
  subst hw''
  go_wp2
  refine wp_region_quiet_lit mixed (by kernel_rfl) ?_
  repeat (first | go_big_quiet_step (fail) | quiet_step (fail))
  refine wpQuiet_step (fun K hK=>?_)
  go_simp
  refine ⟨_,fun q=>((Any.strings_IndexByte { L with } _ _ _).mono fun e w' h=>⟨h.1,q,h.2⟩),hK _ ?_⟩
  clear hK K
  repeat (first | go_big_quiet_step (fail) | quiet_step (fail))
  refine wpQuiet_nil ?_
  intro _ hw'
  obtain ⟨nq2,hw''⟩:=hw'
  subst hw''
  rw [hx]
  go_wp2
  go_simp
  try rw [Exit.noGoto_ret]
  go_ret
  exact ⟨rfl,⟨rfl,rfl,rfl,Nat.le_refl _,fun _ _=>rfl⟩⟩
set_option maxRecDepth 1000000 in
theorem Xa (L:Lays.n152 P ρ) (r:Int) (w:World) (h0:128≤r) (h1:r≠65533) (hv:Lib.validRune r=true) (a b c d:UInt8) (he:Utf8.encode r=⟨#[a,b,c,d]⟩) :
  Calls P (ρ.f 152) #[.string stops,.int .i32 r] w fun e w'=>e = .returned (.int .i64 (-1))∧Below w.heap.size w w':=by
 have mixed:=L.mixed
 have t3:=L.t3;have a3:=L.a3;have z3:=L.z3;have v3:=L.v3
 have t4:=L.t4;have a4:=L.a4;have z4:=L.z4;have v4:=L.v4
 have t5:=L.t5;have a5:=L.a5;have z5:=L.z5;have v5:=L.v5
 have t9:=L.t9;have a9:=L.a9;have z9:=L.z9;have v9:=L.v9
 have t21:=L.t21;have a21:=L.a21;have z21:=L.z21;have v21:=L.v21
 have e119:∀ args w,(callFunc (ρ.f 119) args).run P w = .ok (.enter (ρ.f 119) args) w:=enters_of L.f119 (by kernel_rfl) rfl
 have e137:∀ args w,(callFunc (ρ.f 137) args).run P w = .ok (.enter (ρ.f 137) args) w:=enters_of L.f137 (by kernel_rfl) rfl
 have hlt:¬ r<128:=by omega
 have hne:(r == 65533)=false:=beq_eq_false_iff_ne.2 h1
 go_enter L.f152,Body.n152_ntmps ρ
 go_wp2_with (first
  | (go_at_fn (ρ.f 119);refine (Any.utf8_ValidRune { L with } _ _).mono ?_;rintro e w' ⟨rfl,hw⟩;rw [hw,hv])
  | (go_at_fn (ρ.f 137);refine (Any.strings_IndexByte { L with } _ _ _).mono ?_;rintro e w' ⟨rfl,hw⟩;rw [hw]))
 go_step3
 go_wp2
 go_loopg [9] 1 (fun g s9 wx=>s9 = .int .i64 3∧wx=w)
 case atStart=>exact ⟨rfl,rfl⟩
 case round =>
  obtain ⟨rfl,rfl⟩:=hrel
  go_wp2
  go_simp
  try rw [Exit.noGoto_ret]
  go_ret
  exact ⟨rfl,.refl _ _⟩
theorem ZaK (L:Lays.n152 P ρ) (r:Int) (w:World) (h0:128≤r) :
  Calls P (ρ.f 152) #[.string stops,.int .i32 r] w fun e w'=>e = .returned (.int .i64 (-1))∧Below w.heap.size w w':=by
 by_cases h1:r=65533
 ·subst h1
  refine (U0 L w).mono ?_
  rintro e w' ⟨h,g,rfl⟩
  exact ⟨h,(Below.refl _ _).alloc (Nat.le_refl _) _⟩
 cases hv:Lib.validRune r with
 | false=>exact ZG L r w h0 h1 hv
 | true =>
  rcases W9 r h0 with ⟨a,b,he,hb⟩ | ⟨a,b,c,he,hb⟩ | ⟨a,b,c,d,he⟩
  ·exact ZaF L r w h0 h1 hv a b he hb
  ·exact VQ L r w h0 h1 hv a b c he hb
  ·exact Xa L r w h0 h1 hv a b c d he
theorem get!_at (s:ByteArray) (k:Nat) (h:k<s.size):s.data.toList[k]? = some (s.get! k):=by
 rw [Lib.data_getElem? s k h]
 congr 1
 exact (get_at s k h).symm
theorem ZaE (s : ByteArray) (pos : Nat) (h : pos < s.size) (ha : 128 ≤ (s[pos]'h).toNat) : pos + (Utf8.decode s pos).2 ≤ s.size ∧ ∀ j, pos ≤ j → j < pos + (Utf8.decode s pos).2 → 128 ≤ (s.get! j).toNat := by
  have h0 : 128 ≤ (s.get! (pos + 0)).toNat := by rw [get_at s pos h]; exact ha
  have fin : ∀ n, (∀ k, k < n → pos + k < s.size ∧ 128 ≤ (s.get! (pos + k)).toNat) → 0 < n → pos + n ≤ s.size ∧ ∀ j, pos ≤ j → j < pos + n → 128 ≤ (s.get! j).toNat := fun n hn h1 =>
    ⟨by have := (hn (n - 1) (by omega)).1; omega, fun j hj hj2 => by have := (hn (j - pos) (by omega)).2; rwa [Nat.add_sub_cancel' hj] at this⟩
  have cont : ∀ k, (decide (pos + k < s.size) && (s.get! (pos + k)).toNat / 64 == 2) = true → pos + k < s.size ∧ 128 ≤ (s.get! (pos + k)).toNat := fun k q => by
    rw [Bool.and_eq_true, decide_eq_true_eq, beq_iff_eq] at q; exact ⟨q.1, by omega⟩
  have z : pos + 0 < s.size ∧ 128 ≤ (s.get! (pos + 0)).toNat := ⟨h, h0⟩
  have one : ∀ c : Nat, pos + (c, 1).2 ≤ s.size ∧ ∀ j, pos ≤ j → j < pos + (c, 1).2 → 128 ≤ (s.get! j).toNat := fun _ => fin 1 (fun k hk => by obtain rfl : k = 0 := by omega
                                                                                                                                               exact z) (by omega)
  unfold Utf8.decode
  simp only
  rw [Aa]
  split
  · rename_i q
    rw [Bool.and_eq_true] at q
    split
    · exact fin 2 (fun k hk => by
        rcases (by omega : k = 0 ∨ k = 1) with rfl | rfl
        · exact z
        · exact cont 1 q.2) (by omega)
    · exact one _
  · split
    · rename_i q
      rw [Bool.and_eq_true, Bool.and_eq_true] at q
      split
      · exact fin 3 (fun k hk => by
          rcases (by omega : k = 0 ∨ k = 1 ∨ k = 2) with rfl | rfl | rfl
          · exact z
          · exact cont 1 q.1.2
          · exact cont 2 q.2) (by omega)
      · exact one _
    · split
      · rename_i q
        rw [Bool.and_eq_true, Bool.and_eq_true, Bool.and_eq_true] at q
        split
        · exact fin 4 (fun k hk => by
            rcases (by omega : k = 0 ∨ k = 1 ∨ k = 2 ∨ k = 3) with rfl | rfl | rfl | rfl
            · exact z
            · exact cont 1 q.1.1.2
            · exact cont 2 q.1.2
            · exact cont 3 q.2) (by omega)
        · exact one _
      · exact one _
theorem UW (b:UInt8) (h:128≤b.toNat):stops.data.toList.contains b=false:=by
 show ([46,91,63]:List UInt8).contains b=false
 simp
 refine ⟨?_,?_,?_⟩<;>(rintro rfl;exact absurd h (by decide))
set_option maxRecDepth 1000000 in
theorem XW (L:Lays.n153 P ρ) (s:ByteArray) (w:World) (h8:s.size≤8) :
  Calls P (ρ.f 153) #[.string s,.string stops] w fun e w'=>e = .returned (.int .i64 (Lib.indexAny s.data.toList stops.data.toList))∧Below w.heap.size w w':=by
 have hemp:stops.toList.isEmpty=false:=by rw [Lib.toList_data];rfl
 have hn1:((stops.size:Int) == 1)=false:=by decide
 have h8z:decide ((8:Int)<(s.size:Int))=false:=Af (by omega)
 have t3:=L.t3;have a3:=L.a3;have z3:=L.z3;have v3:=L.v3
 have t4:=L.t4;have a4:=L.a4;have z4:=L.z4;have v4:=L.v4
 have t5:=L.t5;have a5:=L.a5;have z5:=L.z5;have v5:=L.v5
 have t9:=L.t9;have a9:=L.a9;have z9:=L.z9;have v9:=L.v9
 have t21:=L.t21;have a21:=L.a21;have z21:=L.z21;have v21:=L.v21
 have e152:∀ args w,(callFunc (ρ.f 152) args).run P w = .ok (.enter (ρ.f 152) args) w:=enters_of L.f152 (by kernel_rfl) rfl
 have e226:∀ args w,(callFunc (ρ.f 226) args).run P w = .ok (.enter (ρ.f 226) args) w:=enters_of L.f226 (by kernel_rfl) rfl
 go_enter L.f153,Body.n153_ntmps ρ
 go_wp2_with (go_at_fn (ρ.f 226);refine (Any.strings_shouldUseASCIISet { L with } _ _).mono ?_;rintro e w' ⟨rfl,hw⟩;rw [hw,h8z])
 go_loopg [9,10] s.size (fun g _ _ wr=>∃ pos:Nat,pos+g=s.size∧wr.heap[w.heap.size]? = some (.stringIter s pos)∧Below w.heap.size w wr∧Lib.NoAny s.data.toList stops.data.toList pos)
 case atStart=>exact ⟨0,by omega,World.iter_heap w s 0,(Below.refl _ _).alloc (Nat.le_refl _) _,Lib.NoAny.zero _ _⟩
 case round =>
  obtain ⟨i,hig,hit,hbw,hno⟩:=hrel
  have HN:Aside (Lib.NoAny s.data.toList stops.data.toList i):=hno
  clear hno
  by_cases hp:i<s.size
  ·have hnx:=fun ty=>Lib.run_next_any_at (P:=P) wr w.heap.size s i ty hit hp
   have hit2:=Lib.iterAt_heap wr w.heap.size s i (i+(Utf8.decode s i).2) hit
   have hbw2:=Lib.below_iterAt hbw (k:=w.heap.size) (Nat.le_refl _) s (i+(Utf8.decode s i).2)
   obtain ⟨W1,hW1⟩:∃ W1,W1=wr.iterAt w.heap.size s (i+(Utf8.decode s i).2):=⟨_,rfl⟩
   rw [←hW1] at hnx hit2 hbw2
   have hlt1:w.heap.size<W1.heap.size:=(Array.getElem?_eq_some_iff.1 hit2).1
   clear hW1
   obtain ⟨x,hx⟩:∃ x:UInt8,s[i]'hp=x:=⟨_,rfl⟩
   have hxl:s.data.toList[i]? = some x:=by rw [←hx];exact Lib.data_getElem? s i hp
   by_cases hxa:x.toNat<128
   ·have hdec:Utf8.decode s i=(x.toNat,1):=by rw [←hx];exact decode_ascii s i hp (by rw [hx];exact hxa)
    rw [hdec] at hnx hit2
    have Hx:Aside (s.data.toList[i]? = some x):=hxl
    clear hxl hx hdec
    have hcon:=Lib.contains_iff_indexByte stops.data.toList x
    have hback:(x.toNat:Int).toNat.toUInt8=x:=by simp
    cases hin:stops.data.toList.contains x
    ·rw [hin] at hcon
     have hlt:¬ ((0:Int)≤Lib.indexByte stops.data.toList x):=of_decide_eq_false hcon.symm
     clear hcon
     go_wp2_with (go_at_fn (ρ.f 152);refine (Any.strings_IndexRune_ascii { L with } _ _ _ (by omega) (by omega)).mono ?_;rintro e w' ⟨rfl,hw⟩;rw [hw,hback])
     go_roundg (s.size-(i+1))
     case measure=>omega
     case rel=>exact ⟨i+1,by omega,hit2,hbw2,HN.out.succ Hx.out hin⟩
    ·rw [hin] at hcon
     have hge:(0:Int)≤Lib.indexByte stops.data.toList x:=of_decide_eq_true hcon.symm
     clear hcon
     go_wp2_with (go_at_fn (ρ.f 152);refine (Any.strings_IndexRune_ascii { L with } _ _ _ (by omega) (by omega)).mono ?_;rintro e w' ⟨rfl,hw⟩;rw [hw,hback])
     go_ret
     exact ⟨by rw [Lib.indexAny_hit HN.out Hx.out hin];rfl,hbw2⟩
   ·have hxa':128≤(s[i]'hp).toNat:=by rw [hx];omega
    obtain ⟨d1,d2⟩:=decode_high s i hp hxa'
    obtain ⟨d3,d4⟩:=ZaE s i hp hxa'
    have HD:Aside (Lib.NoAny s.data.toList stops.data.toList (i+(Utf8.decode s i).2)):=fun j b hj hb=>by
     by_cases c:j<i
     ·exact HN.out j b c hb
     ·have q:=d4 j (by omega) hj
      have hjs:j<s.size:=by omega
      rw [get!_at s j hjs] at hb
      cases hb
      exact UW _ q
    generalize hdd:Utf8.decode s i=dd at *
    obtain ⟨r,k⟩:=dd
    simp only at d1 d2 d3 HD hnx hit2
    clear d4 hdd hxa' hxa hxl hx
    have hlt:¬ ((0:Int) ≤ -1):=by decide
    go_wp2_with (go_at_fn (ρ.f 152);refine (ZaK { L with } _ _ (by omega)).mono ?_;rintro e w2 ⟨rfl,hb2⟩)
    go_roundg (s.size-(i+k))
    case measure=>omega
    case rel=>exact ⟨i+k,by omega,by rw [hb2.block w.heap.size hlt1];exact hit2,hbw2.trans ⟨hb2.os,hb2.tape,hb2.output,by have:=hb2.size;omega,fun j hj=>hb2.block j (by omega)⟩,HD.out⟩
  ·have hnx:=Lib.run_next_end_at (P:=P) wr w.heap.size s i
   have hnx:=fun ty=>hnx ty hit hp
   go_wp2
   go_ret
   exact ⟨by rw [Lib.indexAny_none (by rw [←Lib.size_eq];exact fun j b hj=>HN.out j b (by omega))];rfl,hbw⟩
end Go.Proofs
namespace Go.Proofs.YtcdnijfbfdnjlaaGreatDoor
open Go Go.RowKit Go.Ev
abbrev US (w0:World):Prop:=∃ m,w0.cell? ⟨0,0,none⟩=some (.int .i64 m)
abbrev ZgV (w0:World):Prop:=(∃ ev,w0.cell? ⟨6,0,none⟩=some ev∧(ev = .nilIface∨∃ te pe,ev = .iface te pe))∧∃ ev,w0.cell? ⟨7,0,none⟩=some ev∧(ev = .nilIface∨∃ te pe,ev = .iface te pe)
theorem Xy:∀ (j:Nat) (b:UInt8),stops.data.toList[j]? = some b→b.toNat<128:=fun j b h=>by
 have a:b∈([46,91,63]:List UInt8):=List.mem_of_getElem? h
 simp only [List.mem_cons,List.not_mem_nil,or_false] at a
 rcases a with rfl | rfl | rfl<;>decide
theorem Pm {w0 w:World} {p:Addr} {v:Value} (h:w0.cell? p=some v) (hb:Below w0.heap.size w0 w):w.cell? p=some v:=by
 rw [hb.cell (World.block_lt_of_cell? w0 _ h)];exact h
def ZiN (s:ByteArray):Int:=Lib.indexAny s.data.toList [46,91,63]
def Zf (s p:ByteArray):Bool:=Lib.hasPrefix s.data.toList p.data.toList
def Zae (s p:ByteArray):ByteArray:=⟨(Lib.cut s.data.toList p.data.toList).1.toArray⟩
def Zar (s p:ByteArray):ByteArray:=⟨(Lib.cut s.data.toList p.data.toList).2.1.toArray⟩
def Zgq (s p:ByteArray):Bool:=(Lib.cut s.data.toList p.data.toList).2.2
section
variable (w0:World) (B:Aq) (Rw:Au) (L:Av)
theorem PV (s c:ByteArray) (h:s.size≤4294967280∧c=stops) :
  ACalls Tryz.prog w0 235 [.val (.string s),.val (.string c)] ⟨B,Rw,L⟩ fun v s'=>v=Ak (ZiN s)∧s'=⟨B,Rw,L⟩ :=
 EL (A0 Tryz.func235 rfl (by decide)) rfl fun M w b g a=>by
  obtain ⟨h,rfl⟩:=h
  have:=H9 (us:=[.string s,.string stops]) a
  subst this
  by_cases h8:s.size≤8
  ·exact XW Tryz.lays153 s w h8
  ·refine (Tryz.strings_IndexAny_long (zero_of_info (show (Tryz.prog.info? 346).map (fun i=>(i.zero,i.size))=some (some (.agg (Array.replicate 256 (.bool false))),256) by kernel_rfl)).1 s stops w (by decide) (by omega) (by omega) (by decide) Xy).mono fun e j ⟨d,f⟩=>⟨d,?_⟩
   rw [f]
   exact ((Below.refl _ _).alloc (Nat.le_refl _) _).alloc (by simp) _
theorem Og (s p:ByteArray) :
  ACalls Tryz.prog w0 236 [.val (.string s),.val (.string p)] ⟨B,Rw,L⟩ fun v s'=>v = .val (.bool (Zf s p))∧s'=⟨B,Rw,L⟩ :=
 EL (A0 Tryz.func236 rfl (by decide)) rfl fun M w b f a=>by
  have:=H9 (us:=[.string s,.string p]) a
  subst this
  exact (Tryz.strings_HasPrefix s p w).mono fun e g ⟨c,d⟩=>⟨c,d▸Below.refl _ _⟩
theorem ZaO (s p:ByteArray):(Zae s p).size≤s.size∧(Zar s p).size≤s.size:=by
 have e:s.data.toList.length=s.size:=by simp
 unfold Zae Zar Lib.cut
 split
 ·refine ⟨?_,?_⟩
  ·show ((s.data.toList.take _).toArray).size≤_
   rw [List.size_toArray,List.length_take];omega
  ·show ((s.data.toList.drop _).toArray).size≤_
   rw [List.size_toArray,List.length_drop];omega
 ·refine ⟨?_,?_⟩
  ·show (s.data.toList.toArray).size≤_
   rw [List.size_toArray];omega
  ·exact Nat.zero_le _
theorem Za0 (hM:US w0) (s p:ByteArray) (h:s.size≤4294967280) :
  ACalls Tryz.prog w0 237 [.val (.string s),.val (.string p)] ⟨B,Rw,L⟩ fun v s'=>v = .tup [.val (.string (Zae s p)),.val (.string (Zar s p)),.val (.bool (Zgq s p))]∧s'=⟨B,Rw,L⟩ :=
 L9 (rs:=[.string (Zae s p),.string (Zar s p),.bool (Zgq s p)]) (A0 Tryz.func237 rfl (by decide)) (by
  obtain ⟨j,d⟩:=ZaO s p
  have k:∀ x:ByteArray,x.size≤s.size→E1 (.string x)=true:=fun x o=>Ag (by unfold maxLen;omega)
  intro r c
  simp only [List.mem_cons,List.not_mem_nil,or_false] at c
  rcases c with rfl | rfl | rfl
  ·exact k _ j
  ·exact k _ d
  ·rfl) fun M w b f a=>by
  have:=H9 (us:=[.string s,.string p]) a
  subst this
  obtain ⟨m,i⟩:=hM
  exact (Tryz.strings_Cut s p m w (by omega) (Pm i f)).mono fun e q ⟨g,n,l⟩=>⟨g,l▸(⟨rfl,rfl,rfl,Nat.le_refl _,fun _ _=>rfl⟩:Below w.heap.size w (w.drewN n))⟩
end
@[go_sem] theorem Zd7:Rm Tryz.prog 312=true:=by kernel_rfl
end Go.Proofs.YtcdnijfbfdnjlaaGreatDoor
namespace Go.Ev
open Go Go.RowKit Go.Shelf Go.Lib Go.Proofs
structure DelLay (P:Program) (ρ:Ren) (nm:String) (sz bytes:Nat) (z:Value):Prop where
 mixed:P.follows .mixedOrders=true
 nmo:(nm == "runtime.NumGoroutine")=false
 f45:P.funcs[ρ.f 45]? = some { SlBodyN.n45 ρ with name:=nm }
 t0:P.underlying (ρ.t 0)=some (TypeDesc.tuple #[])
 a0:∀ w,(isAgg (ρ.t 0)).run P w = .ok false w
 z0:∀ w,(Go.sizeOf (ρ.t 0)).run P w = .ok 1 w
 v0:∀ w,(zeroValue (ρ.t 0)).run P w = .ok (Value.tuple #[]) w
 t3:P.underlying (ρ.t 3)=some (TypeDesc.int IntKind.i64)
 a3:∀ w,(isAgg (ρ.t 3)).run P w = .ok false w
 z3:∀ w,(Go.sizeOf (ρ.t 3)).run P w = .ok 1 w
 v3:∀ w,(zeroValue (ρ.t 3)).run P w = .ok (Value.int IntKind.i64 0) w
 t4:P.underlying (ρ.t 4)=some (TypeDesc.bool)
 a4:∀ w,(isAgg (ρ.t 4)).run P w = .ok false w
 z4:∀ w,(Go.sizeOf (ρ.t 4)).run P w = .ok 1 w
 v4:∀ w,(zeroValue (ρ.t 4)).run P w = .ok (Value.bool false) w
 t22:P.underlying (ρ.t 22)=some (TypeDesc.slice (ρ.t 23))
 a22:∀ w,(isAgg (ρ.t 22)).run P w = .ok false w
 z22:∀ w,(Go.sizeOf (ρ.t 22)).run P w = .ok 1 w
 v22:∀ w,(zeroValue (ρ.t 22)).run P w = .ok (Value.slice none 0 0) w
 z23:∀ w,(Go.sizeOf (ρ.t 23)).run P w = .ok sz w
 v23:∀ w,(zeroValue (ρ.t 23)).run P w = .ok z w
 i23:(P.info? (ρ.t 23)).map (fun i=>(i.zero,i.size,i.bytes))=some (some z,sz,bytes)
section
variable {P:Program} {ρ:Ren} {nm:String} {sz bytes:Nat} {z:Value}
theorem Ru (w:World) (t e ty:TypeId) (ht:P.underlying t=some (.slice e)) (hv:∀ w,(zeroValue e).run P w = .ok z w) (b o n c:Nat) (zs:List Value) (hzs:(Builtin.zeroCells z.cells n).toList=zs) (h1:∀ v∈zs,v.oneCell'=true) (hn:0<n)
  (hc:∀ j,j<zs.length→(w.cell? ⟨b,o+j,none⟩).isSome=true) (hf:∀ j,j<zs.length→w.frozen? ⟨b,o+j,none⟩=false) :
  (Builtin.clear_ #[t] ty #[.slice (some ⟨b,o,none⟩) n c]).run P w = .ok (.tuple #[]) (w.setCells b o zs):=by
 have a:=run_storeCells_cells (P:=P) b o zs 0 w (by simpa using hc) (by simpa using hf) h1
 simp only [Nat.add_zero] at a
 obtain ⟨m,rfl⟩:∃ m,n=m+1:=⟨n-1,by omega⟩
 simp [Builtin.clear_,run_underlying ht,hv,hzs,a]
set_option maxRecDepth 1000000 in
theorem X9 (L:DelLay P ρ nm sz bytes z) (b off n c i j:Nat) (cs zs:List Value) (w:World) (hij:i<j) (hj:j≤n) (hnc:n≤c) (hc63:c≤9223372036854775807)
  (hcl:cs.length=n*sz) (hcs:∀ k v,cs[k]? = some v→w.cell? ⟨b,off+k,none⟩=some v) (hfz:∀ k,w.frozen? ⟨b,k,none⟩=false) (h1c:∀ v∈cs,v.oneCell'=true)
  (hzs:(Builtin.zeroCells z.cells (n-(i+(n-j)))).toList=zs) (hzl:zs.length=(j-i)*sz) (h1z:∀ v∈zs,v.oneCell'=true) :
  Calls P (ρ.f 45) #[.slice (some ⟨b,off,none⟩) n c,.int .i64 i,.int .i64 j] w fun e w' =>
   e = .returned (.slice (some ⟨b,off,none⟩) (i+(n-j)) c)∧w'=(w.drew.setCells b (off+i*sz) (cs.drop (j*sz))).setCells b (off+(i+(n-j))*sz) zs:=by
 have t0:=L.t0;have a0:=L.a0;have z0:=L.z0;have v0:=L.v0;have t3:=L.t3;have a3:=L.a3;have z3:=L.z3;have v3:=L.v3;have t4:=L.t4;have a4:=L.a4;have z4:=L.z4;have v4:=L.v4;have t22:=L.t22;have a22:=L.a22;have z22:=L.z22;have v22:=L.v22;have z23:=L.z23;have v23:=L.v23
 have u0:=run_underlying L.t0;have u3:=run_underlying L.t3;have u4:=run_underlying L.t4;have u22:=run_underlying L.t22
 have mixed:=L.mixed
 obtain ⟨i0,hi0,hz0,hz1,hz2⟩:=info_parts L.i23
 have e1:j*sz+(n-j)*sz=n*sz:=by rw [←Nat.add_mul];congr 1;omega
 have e2:i*sz+(j-i)*sz=j*sz:=by rw [←Nat.add_mul];congr 1;omega
 have e3:(i+(n-j))*sz=i*sz+(n-j)*sz:=Nat.add_mul ..
 have e4:n-(i+(n-j))=j-i:=by omega
 obtain ⟨news,hnews⟩:∃ news,news=cs.drop (j*sz):=⟨_,rfl⟩
 have hlen:news.length=(n-j)*sz:=by rw [hnews,List.length_drop,hcl];omega
 obtain ⟨A,hA,hsrc⟩:∃ A:Addr,(if c=j then some (⟨b,off,none⟩:Addr) else some ⟨b,off+j*sz,none⟩)=some A∧Hid (∀ t u,news[t]? = some u→w.drew.cell? (A.add t)=some u):=by
  by_cases h:c=j
  ·refine ⟨⟨b,off,none⟩,by simp [h],fun t u hu=>?_⟩
   have h0:news.length=0:=by rw [hlen,show n-j=0 by omega,Nat.zero_mul]
   rw [List.length_eq_zero_iff.1 h0] at hu
   simp at hu
  ·refine ⟨⟨b,off+j*sz,none⟩,by simp [h],fun t u hu=>?_⟩
   rw [hnews,List.getElem?_drop] at hu
   rw [Addr.add_lit,Nat.add_assoc]
   exact hcs _ _ hu
 have some_:∀ k,k<n*sz→(w.cell? ⟨b,off+k,none⟩).isSome=true:=fun k hk=>by
  rw [hcs k _ (List.getElem?_eq_getElem (by omega))];rfl
 have s1:Hid (news.length=(n-j)*sz):=hlen
 have s2:Hid (∀ u∈news,u.oneCell'=true):=fun u hu=>h1c u (by rw [hnews] at hu;exact List.mem_of_mem_drop hu)
 have s3:Hid (∀ t,t<news.length→(w.drew.cell? ⟨b,off+i*sz+t,none⟩).isSome=true∧w.drew.frozen? ⟨b,off+i*sz+t,none⟩=false):=by
  intro t ht
  rw [hlen] at ht
  rw [Nat.add_assoc]
  exact ⟨some_ _ (by omega),hfz _⟩
 obtain ⟨W1,hW1⟩:∃ W1,W1=w.drew.setCells b (off+i*sz) news:=⟨_,rfl⟩
 have some1:∀ k,k<n*sz→(W1.cell? ⟨b,off+k,none⟩).isSome=true:=fun k hk=>by
  rw [hW1]
  exact isSome_setCells b _ _ _ (fun t ht=>by rw [Nat.add_assoc];exact some_ _ (by omega)) _ (some_ k hk)
 have hcl:∀ ty,(Builtin.clear_ #[ρ.t 22] ty #[.slice (some ⟨b,off+(i+(n-j))*sz,none⟩) (n-(i+(n-j))) (c-(i+(n-j)))]).run P W1 = .ok (.tuple #[]) (W1.setCells b (off+(i+(n-j))*sz) zs) :=
  fun ty=>Ru W1 _ _ ty t22 v23 b _ _ _ zs hzs h1z (by omega) (fun t ht=>by rw [Nat.add_assoc];exact some1 _ (by omega)) (fun t ht=>by rw [hW1,World.frozen?_setCells];exact hfz _)
 have hW:Hid (W1=w.drew.setCells b (off+i*sz) news):=hW1
 have hN:Aside (news=cs.drop (j*sz)):=hnews
 have hic:i≤c:=by omega
 have hjc:j≤c:=by omega
 have hijn:i≤n:=by omega
 clear hW1 hcs hnews hlen some_ some1 e1 e2 e3 e4 hzs hzl h1z h1c hfz
 have FG:=L.f45
 go_enter FG,SlBodyN.n45_ntmps ρ
 go_wp2_with fail
 go_region_law_o (refine step_append_room rfl (.tmp 22) (.tmp 25) (ρ.t 22) rfl (ρ.t 23) i0 sz t22 hi0 hz1 b off i c (by simp [Act.eval,Act.put]) A (n-j) (c-j) news (by simp [Act.eval,Act.put]) s1.out hsrc.out s2.out (by omega) s3.out ?_;rw [←hW.out])
 go_wp2
 go_ret
 refine ⟨rfl,?_⟩
 rw [hW.out,hN.out]
end
theorem Zi1 {T rest:List Value} {cs:List AV} {a b N:Nat} {Rl:Value→AV→Prop} (hab:a≤b) (hbN:b≤N) (hN:N≤T.length) (hc:cs.length=N) (h:∀ (j:Nat) (v:Value) (x:AV),T[j]? = some v→cs[j]? = some x→Rl v x) (k:Nat) (v:Value) (x:AV)
  (h1:(T.take a++(T.take N).drop b++rest)[k]? = some v) (h2:(cs.take a++cs.drop b)[k]? = some x):Rl v x:=by
 have e:(T.take a).length=a:=by simp;omega
 have g:((T.take N).drop b).length=N-b:=by simp;omega
 have f:(cs.take a).length=a:=by simp;omega
 rw [List.append_assoc] at h1
 by_cases c:k<a
 ·rw [List.getElem?_append_left (by omega),List.getElem?_take,Ah c] at h1 h2
  exact h k v x h1 h2
 ·rw [List.getElem?_append_right (by omega),f,List.getElem?_drop] at h2
  have d:=(Aj.1 h2).1
  rw [List.getElem?_append_right (by omega),e,List.getElem?_append_left (by omega),List.getElem?_drop,List.getElem?_take,Ab] at h1
  exact h _ v x h1 h2
theorem ZaP {z:Value} (h:∀ v∈z.cells.toList,v.oneCell'=true) (n:Nat):∀ v∈(Builtin.zeroCells z.cells n).toList,v.oneCell'=true:=by
 intro v hv
 rw [Builtin.zeroCells,Array.toList_map,List.mem_map] at hv
 obtain ⟨k,b,rfl⟩:=hv
 by_cases c:z.cells.size=0
 ·simp [c] at b
 ·have a:k % z.cells.size<z.cells.size:=Nat.mod_lt _ (by omega)
  rw [getElem!_pos z.cells _ a]
  exact h _ (by simp)
section
variable {P:Program} {w0:World} {ρ:Ren} {nm:String} {sz bytes:Nat} {z:Value} {st:St} {M:Mem} {w:World}
theorem V5 (L:DelLay P ρ nm sz bytes z) (hzc:z.cells.size=sz) (hz1:∀ v∈z.cells.toList,v.oneCell'=true) (h0:0<sz) {id ver n i j:Nat} {cs:List AV} (hrow:st.rows[id]? = some (.vec ver sz cs)) (hcs:cs.length=n*sz) (hij:i<j) (hj:j≤n)
  {v0:Value} (hst:RelSt w0 M st w) (hv0:R w0 M w v0 (.vec id ver 0 n)) :
  Calls P (ρ.f 45) #[v0,.int .i64 i,.int .i64 j] w (Comes' w0 M w fun r s=>r = .vec id (ver+1) 0 (i+(n-j))∧s={ st with rows:=st.rows.set id (.vec (ver+1) sz (cs.take (i*sz)++cs.drop (j*sz))) }):=by
 have d:id<M.NR:=by rw [hst.NR];exact (Aj.1 hrow).1
 obtain ⟨f1,f2,f3,f4,f5,f6,f7,cur,te,f8,f9,ag,E,O⟩:=hst.row id _ hrow
 cases hv0 with
 | @vec _ _ _ _ p cap hid' hver hh =>
 obtain ⟨rfl,hcap,Y⟩:=hh f1.symm
 simp only [Nat.add_zero,Nat.zero_mul] at hcap ⊢
 subst hcap
 have e1:j*sz+(n-j)*sz=n*sz:=by rw [←Nat.add_mul];congr 1;omega
 have e2:i*sz+(j-i)*sz=j*sz:=by rw [←Nat.add_mul];congr 1;omega
 have e3:(i+(n-j))*sz=i*sz+(n-j)*sz:=Nat.add_mul ..
 have e4:n-(i+(n-j))=j-i:=by omega
 have D:n*sz≤cur.size:=by rw [f9];exact Nat.mul_le_mul_right _ Y
 have e:(cur.toList.take (n*sz)).length=n*sz:=by simp;omega
 have h:∀ v∈cur.toList.take (n*sz),v.oneCell'=true:=by
  intro v hv
  obtain ⟨k,hk,rfl⟩:=List.mem_iff_getElem.1 hv
  rw [e] at hk
  rw [List.getElem_take,Array.getElem_toList]
  exact (O k (by omega) (by omega)).oneCell (E _ (List.getElem_mem _))
 have F:∀ k v,(cur.toList.take (n*sz))[k]? = some v→w.cell? ⟨M.blk id,0+k,none⟩=some v:=by
  intro k u hk
  rw [List.getElem?_take] at hk
  split at hk
  ·rw [Nat.zero_add,cell_of_row w _ k cur te _ f8,←Array.getElem?_toList];exact hk
  ·cases hk
 have K:∀ x∈cs.take (i*sz)++cs.drop (j*sz),x.one=true:=by
  intro x hx
  rcases List.mem_append.1 hx with hx | hx
  ·exact E x (List.mem_of_mem_take hx)
  ·exact E x (List.mem_of_mem_drop hx)
 have ab:(cs.take (i*sz)++cs.drop (j*sz)).length=(i+(n-j))*sz:=by
  rw [List.length_append,List.length_take,List.length_drop,e3];omega
 have y:∀ (cells:Array Value) (rest:List Value),cells.toList=cur.toList.take (i*sz)++(cur.toList.take (n*sz)).drop (j*sz)++rest→∀ (k:Nat) (v:Value) (x:AV),cells[k]? = some v→(cs.take (i*sz)++cs.drop (j*sz))[k]? = some x→R w0 M w v x:=by
  intro cells rest J k v x Q aa
  rw [←Array.getElem?_toList,J] at Q
  refine Zi1 (T:=cur.toList) (rest:=rest) (N:=n*sz) (by omega) (by omega) (by simpa using D) hcs (fun j v x h1 h2=>?_) k v x Q aa
  rw [Array.getElem?_toList] at h1
  obtain ⟨q1,rfl⟩:=Array.getElem?_eq_some_iff.1 h1
  obtain ⟨q2,rfl⟩:=Aj.1 h2
  exact O j q1 q2
 obtain ⟨d1,d2⟩:=hst.drew
 obtain ⟨zs,hzs⟩:∃ zs,(Builtin.zeroCells z.cells (n-(i+(n-j)))).toList=zs:=⟨_,rfl⟩
 have H:zs.length=(j-i)*sz:=by rw [←hzs,Array.length_toList,size_zeroCells,hzc,e4]
 have Z:∀ v∈zs,v.oneCell'=true:=by rw [←hzs];exact ZaP hz1 _
 refine (X9 L (M.blk id) 0 n (M.cap id) i j (cur.toList.take (n*sz)) zs w hij hj Y (by unfold maxLen at f6;omega) e F (fun k=>by simp [World.frozen?,f8]) h hzs H Z).mono ?_
 rintro en w' ⟨rfl,rfl⟩
 have o:w.drew.heap[M.blk id]? = some (.cells cur te (0,0)):=f8
 have V:((cur.toList.take (n*sz)).drop (j*sz)).length=(n-j)*sz:=by rw [List.length_drop,e];omega
 rw [LN P o _ _ (by rw [V];omega) (fun v hv=>h v (List.mem_of_mem_drop hv))]
 have ae:=setRow_heap w.drew (M.blk id) cur (cur.toList.take (0+i*sz)++(cur.toList.take (n*sz)).drop (j*sz)++cur.toList.drop (0+i*sz+((cur.toList.take (n*sz)).drop (j*sz)).length)).toArray te _ o
 rw [LN P ae _ _ (by simp only [List.size_toArray,List.length_append,List.length_take,List.length_drop,Array.length_toList];omega) Z,setRow_setRow]
 simp only [Nat.zero_add]
 generalize hc':((cur.toList.take (i*sz)++(cur.toList.take (n*sz)).drop (j*sz)++cur.toList.drop (i*sz+((cur.toList.take (n*sz)).drop (j*sz)).length)).take ((i+(n-j))*sz)++zs++(cur.toList.take (i*sz)++(cur.toList.take (n*sz)).drop (j*sz)++cur.toList.drop (i*sz+((cur.toList.take (n*sz)).drop (j*sz)).length)).drop ((i+(n-j))*sz+zs.length)).toArray=cur'
 have af:(cur.toList.take (i*sz)++(cur.toList.take (n*sz)).drop (j*sz)).length=(i+(n-j))*sz:=by
  rw [List.length_append,V,List.length_take,Array.length_toList,e3];omega
 have t:cur'.toList=cur.toList.take (i*sz)++(cur.toList.take (n*sz)).drop (j*sz)++(zs++(cur.toList.take (i*sz)++(cur.toList.take (n*sz)).drop (j*sz)++cur.toList.drop (i*sz+((cur.toList.take (n*sz)).drop (j*sz)).length)).drop ((i+(n-j))*sz+zs.length)):=by
  rw [←hc',List.take_append_of_le_length (by omega),List.take_of_length_le (by omega)]
  simp only [List.append_assoc]
 have C:cur'.size=cur.size:=by
  rw [←Array.length_toList,t]
  simp only [List.length_append,List.length_take,List.length_drop,Array.length_toList,H]
  omega
 have m:Ext w0 M w.drew (M.growRow id (M.blk id) (M.cap id) (ver+1) 0) (w.drew.setRow (M.blk id) cur'):=by
  refine F5 (M:=M) (M.growRow id (M.blk id) (M.cap id) (ver+1) 0) rfl (fun _ _=>rfl) rfl (fun i hi=>?_) (fun b=>?_) o f3 (fun j hj=>by rw [f4] at hj;omega) (Mem.own_row d) (fun b=>IP d)
  ·by_cases c:i=id
   ·subst c
    simp only [Mem.growRow,if_true,f1]
    exact ⟨by omega,fun q=>absurd q (by omega)⟩
   ·simp only [Mem.growRow,Ai c]
    exact ⟨Nat.le_refl _,fun _=>⟨trivial,trivial,trivial⟩⟩
  ·simp only [Mem.growRow]
   split
   ·rename_i c
    rw [c,f4]
    exact Nat.le_refl _
   ·exact Nat.le_refl _
 have U:=hst.row_lt d
 have q:(M.growRow id (M.blk id) (M.cap id) (ver+1) 0).fr id=ver+1∧(M.growRow id (M.blk id) (M.cap id) (ver+1) 0).blk id=M.blk id∧(M.growRow id (M.blk id) (M.cap id) (ver+1) 0).cap id=M.cap id∧(M.growRow id (M.blk id) (M.cap id) (ver+1) 0).rsz id=M.rsz id∧(M.growRow id (M.blk id) (M.cap id) (ver+1) 0).top (M.blk id)=0:=by simp [Mem.growRow]
 obtain ⟨q1,q2,q3,q4,q5⟩:=q
 have g:i+(n-j)≤M.cap id:=by omega
 have G:=d1.growRow' hrow (x := .vec (ver+1) sz (cs.take (i*sz)++cs.drop (j*sz))) (w':=w.drew.setRow (M.blk id) cur') (b:=M.blk id) (cap:=M.cap id) (k:=ver+1) (tp:=0) (Below.setRow (Below.refl _ _) f3 _) (by simp) (by simpa using U)
  (fun l hl=>⟨f5 l hl,setRow_other w.drew _ _ _ (f5 l hl)⟩) (fun i hi ad=>by
   have:M.blk i≠M.blk id:=fun q=>ad (hst.rowinj i id hi d q)
   exact ⟨this,setRow_other w.drew _ _ _ this⟩) (by
   simp only [RowOk,q1,q2,q3,q4,q5]
   exact ⟨trivial,f2,f3,trivial,f5,f6,h0,cur',te,setRow_heap w.drew _ cur cur' te _ o,C.trans f9,by rw [ab,C,f9];exact Nat.mul_le_mul_right _ g,K,
    fun i a b=>((y cur' _ t i _ _ (Array.getElem?_eq_getElem a) (List.getElem?_eq_getElem b)).mono d2).mono m⟩) m (KeepsObj.setRow o _)
 exact ⟨_,_,_,_,rfl,⟨rfl,rfl⟩,d2.trans m,G,.vec d (by rw [q1];exact Nat.le_refl _) fun _=>⟨by rw [q2];simp,by rw [q3];rfl,g⟩⟩
theorem Vd (L:DelLay P ρ nm sz bytes z) (hen:IU P (ρ.f 45)) (hzc:z.cells.size=sz) (hz1:∀ v∈z.cells.toList,v.oneCell'=true) (h0:0<sz) {id ver n i j:Nat} {cs:List AV} (hrow:st.rows[id]? = some (.vec ver sz cs)) (hcs:cs.length=n*sz) (hij:i<j) (hj:j≤n) :
  ACalls P w0 (ρ.f 45) [.vec id ver 0 n,Ak i,Ak j] st fun r s=>r = .vec id (ver+1) 0 (i+(n-j))∧s={ st with rows:=st.rows.set id (.vec (ver+1) sz (cs.take (i*sz)++cs.drop (j*sz))) }:=by
 refine ⟨hen,fun M w e h d=>?_⟩
 obtain ⟨v0,v1,v2,rfl⟩:∃ v0 v1 v2,e = #[v0,v1,v2]:=by
  have:=d.1
  simp only [List.length_cons,List.length_nil] at this
  obtain ⟨l⟩:=e
  match l,this with
  | [a,b,c],_=>exact ⟨a,b,c,rfl⟩
 have k:R w0 M w v0 (.vec id ver 0 n):=d.2 0 (by simp) (by simp)
 have m:R w0 M w v1 (Ak i):=d.2 1 (by simp) (by simp)
 have g:R w0 M w v2 (Ak j):=d.2 2 (by simp) (by simp)
 obtain ⟨rfl,_⟩:=m.val_inv
 obtain ⟨rfl,_⟩:=g.val_inv
 exact V5 L hzc hz1 h0 hrow hcs hij hj h k
end
end Go.Ev
namespace Go.Proofs.YtcdnijfbfdnjlaaGreatDoor
open Go Go.RowKit Go.Ev
set_option maxRecDepth 100000
noncomputable def Zbs:Nat→Nat→List UInt8
 | 0,_=>[]
 | k+1,u=>if Nat.blt u 10=true then [UInt8.ofNat (48+u)] else Zbs k (u / 10)++[UInt8.ofNat (48+u % 10)]
theorem V6:∀ (k u:Nat),u<10 ^ k→0<k→Zbs k u=Lib.decDigits u
 | 0,u,_,h=>absurd h (Nat.lt_irrefl _)
 | k+1,u,h,_=>by
  rw [Zbs,Lib.decDigits]
  by_cases q:u<10
  ·rw [Ah (by simpa using q),dif_pos q]
  ·rw [Ai (by simpa using q),dif_neg q]
   have a:0<k:=by
    cases k with
    | zero=>simp at h;omega
    | succ k=>omega
   rw [V6 k (u / 10) (by rw [Nat.pow_succ] at h;omega) a]
theorem Zld {x y:ByteArray} (h:ND x y=true):x=y:=by
 have:x.data.toList=y.data.toList:=eq_of_beq h
 have:x.data=y.data:=Array.toList_inj.1 this
 cases x;cases y;simp_all
section
noncomputable def ZeG (f:FuncId) (args:List AV):Option AV :=
 if Nat.beq f 235=true then (match args with | [.val (.string s),.val (.string c)]=>if (Nat.ble s.size 4294967280&&ND c stops)=true then some (.val (.int .i64 (ZiN s))) else none | _=>none)
 else if Nat.beq f 236=true then (match args with | [.val (.string s),.val (.string p)]=>some (.val (.bool (Zf s p))) | _=>none)
 else if Nat.beq f 237=true then (match args with | [.val (.string s),.val (.string p)]=>if Nat.ble s.size 4294967280=true then some (.tup [.val (.string (Zae s p)),.val (.string (Zar s p)),.val (.bool (Zgq s p))]) else none | _=>none)
 else if Nat.beq f 64=true then (match args with | [.val (.string s),.val (.string p)]=>some (.val (.int .i64 (Q6 s p))) | _=>none)
 else if Nat.beq f 115=true then (match args with | [.val (.string s)]=>if Nat.ble s.size 4294967280=true then some (.val (.bool (Lib.validD s.data.toList))) else none | _=>none)
 else if Nat.beq f 86=true then (match args with | [.val (.int .i64 (.ofNat n))]=>if Nat.blt n 1000000000000000000=true then some (.val (.string ⟨(Zbs 18 n).toArray⟩)) else none | _=>none)
 else if Nat.beq f 88=true then (match args with | [.list [] .none]=>some (.list [] .full) | [.list [] .full]=>some (.list [] .full) | [.list [] .seed]=>some (.list [] .full) | _=>none)
 else if Nat.beq f 92=true then (match args with | [.list [] .none]=>some (.list [] .full) | [.list [] .full]=>some (.list [] .full) | [.list [] .seed]=>some (.list [] .full) | _=>none)
 else if Nat.beq f 349=true then (match args with | [.list [] .none]=>some (.list [] .full) | [.list [] .full]=>some (.list [] .full) | [.list [] .seed]=>some (.list [] .full) | _=>none)
 else none
noncomputable def Zil (f:FuncId) (args:List AV):Option AV:=Bool.rec (motive:=fun _=>Option AV) none (ZeG f args) (NB 1146749307995035755805410447651043856896077914855712658215122707206886816844725052471715258846899221823488 f)
theorem Zem {w0:World} (hM:US w0) (hP:Pow10 w0) (hT:Lib.Utf8Tabs 1 2 w0) (f:FuncId) (args:List AV) (v:AV) (st:St) (h:Zil f args=some v):ACalls Tryz.prog w0 f args st fun r s=>r=v∧s=st:=by
 replace h:=(F6 h).2
 obtain ⟨B,Rw,L⟩:=st
 unfold ZeG at h
 split at h
 ·rename_i q;obtain rfl:=Nat.eq_of_beq_eq_true q
  split at h
  ·split at h
   ·rename_i q
    rw [Bool.and_eq_true] at q
    cases h
    refine PV w0 B Rw L _ _ ⟨Nat.le_of_ble_eq_true q.1,Zld q.2⟩
   ·cases h
  ·cases h
 split at h
 ·rename_i q;obtain rfl:=Nat.eq_of_beq_eq_true q
  split at h
  ·cases h;exact Og w0 B Rw L _ _
  ·cases h
 split at h
 ·rename_i q;obtain rfl:=Nat.eq_of_beq_eq_true q
  split at h
  ·split at h
   ·rename_i q;cases h;exact Za0 w0 B Rw L hM _ _ (Nat.le_of_ble_eq_true q)
   ·cases h
  ·cases h
 split at h
 ·rename_i q;obtain rfl:=Nat.eq_of_beq_eq_true q
  split at h
  ·cases h;exact IR w0 B Rw L _ _
  ·cases h
 split at h
 ·rename_i q;obtain rfl:=Nat.eq_of_beq_eq_true q
  split at h
  ·split at h
   ·rename_i q;cases h;exact Oj w0 B Rw L hT _ (by have:=Nat.le_of_ble_eq_true q;unfold maxLen;omega)
   ·cases h
  ·cases h
 split at h
 ·rename_i q;obtain rfl:=Nat.eq_of_beq_eq_true q
  split at h
  ·rename_i n
   split at h
   ·rename_i q
    have q:=DI q
    cases h
    have:=YY w0 B Rw L hP (n:Int) (by omega)
    have e:Lib.itoa (n:Int)=Zbs 18 n:=by
     rw [V6 18 n (by omega) (by decide)]
     unfold Lib.itoa;rw [Aa];simp
    rw [e] at this
    exact this
   ·cases h
  ·cases h
 split at h
 ·rename_i q;obtain rfl:=Nat.eq_of_beq_eq_true q
  have base:ACalls Tryz.prog w0 88 [.list [] .none] ⟨B,Rw,L⟩ fun r s=>r = .list [] .full∧s=⟨B,Rw,L⟩:=LZ w0 B Rw L [] (by decide)
  split at h
  ·cases h;exact base
  ·cases h;exact base.pub rfl
  ·cases h;exact base.pub rfl
  ·cases h
 split at h
 ·rename_i q;obtain rfl:=Nat.eq_of_beq_eq_true q
  have base:ACalls Tryz.prog w0 92 [.list [] .none] ⟨B,Rw,L⟩ fun r s=>r = .list [] .full∧s=⟨B,Rw,L⟩:=Ku w0 B Rw L [] (by decide)
  split at h
  ·cases h;exact base
  ·cases h;exact base.pub rfl
  ·cases h;exact base.pub rfl
  ·cases h
 split at h
 ·rename_i q;obtain rfl:=Nat.eq_of_beq_eq_true q
  have base:ACalls Tryz.prog w0 349 [.list [] .none] ⟨B,Rw,L⟩ fun r s=>r = .list [] .full∧s=⟨B,Rw,L⟩:=J1 w0 B Rw L [] (by decide)
  split at h
  ·cases h;exact base
  ·cases h;exact base.pub rfl
  ·cases h;exact base.pub rfl
  ·cases h
 cases h
noncomputable def ZiZ:Go.Shelf.Ren:=⟨fun x=>if x=45 then 181 else x,
 fun x=>if x=23 then 60 else if x=22 then 35 else if x=3 then 3 else if x=4 then 4 else if x=0 then 0 else x,fun x=>x⟩
noncomputable def Zha:Value := .agg #[.int .i64 0,.int .i64 0,.int .i64 0,.string ⟨#[]⟩,.slice none 0 0,.slice none 0 0,.int .i64 0,.int .i64 0,.slice none 0 0,.slice none 0 0]
theorem ZiS:DelLay Tryz.prog ZiZ Tryz.f181.name 10 152 Zha:={
  mixed:=by kernel_rfl
  nmo:=by kernel_rfl
  f45:=Tryz.func181.trans (congrArg some (by kernel_rfl))
  t0:=Tryz.underlying0
  a0:=Tryz.isAgg0
  z0:=Tryz.sizeOf0
  v0:=Tryz.zeroValue0
  t3:=Tryz.underlying3
  a3:=Tryz.isAgg3
  z3:=Tryz.sizeOf3
  v3:=Tryz.zeroValue3
  t4:=Tryz.underlying4
  a4:=Tryz.isAgg4
  z4:=Tryz.sizeOf4
  v4:=Tryz.zeroValue4
  t22:=Tryz.underlying35
  a22:=Tryz.isAgg35
  z22:=Tryz.sizeOf35
  v22:=Tryz.zeroValue35
  z23:=Tryz.sizeOf60
  v23:=Tryz.zeroValue60
  i23:=by kernel_rfl }
noncomputable def Zgp (F:Fl) (f:FuncId) (args:List AV) (st:St):Option (AV × St):=if Nat.beq f 181=true then (match args with
 | [.vec id ver 0 n,.val (.int .i64 (.ofNat i)),.val (.int .i64 (.ofNat j))]=>match st.rows[id]? with
  | some (.vec v sz cs)=>if (Nat.ble F.r id&&Nat.beq v ver&&Nat.beq sz 10&&Xq cs (n*10)&&Nat.blt i j&&Nat.ble j n)=true then some (.vec id (ver+1) 0 (i+(n-j)),{ st with rows:=st.rows.set id (.vec (ver+1) 10 (cs.take (i*10)++cs.drop (j*10))) }) else none
  | _=>none
 | _=>none) else none
theorem Zea {w0:World} (F:Fl) (f:FuncId) (args:List AV) (st:St) (v:AV) (st':St) (h:Zgp F f args st=some (v,st')):(ACalls Tryz.prog w0 f args st fun r s=>r=v∧s=st')∧(Fits F st→Pre F st st'):=by
 unfold Zgp at h
 split at h
 rotate_left
 ·cases h
 rename_i q;obtain rfl:=Nat.eq_of_beq_eq_true q
 split at h
 rotate_left
 ·cases h
 rename_i id ver n i j
 split at h
 rotate_left
 ·cases h
 rename_i v0 sz cs hrow
 split at h
 rotate_left
 ·cases h
 rename_i q
 simp only [Bool.and_eq_true] at q
 obtain ⟨⟨⟨⟨⟨q1,q2⟩,q3⟩,b⟩,d⟩,c⟩:=q
 obtain rfl:=Nat.eq_of_beq_eq_true q2
 obtain rfl:=Nat.eq_of_beq_eq_true q3
 cases h
 refine ⟨Vd (P:=Tryz.prog) (w0:=w0) (st:=st) (i:=i) (j:=j) (n:=n) ZiS (A0 Tryz.func181 rfl (by decide)) rfl (by decide) (by decide) hrow (LV _ _ b) (DI d) (Nat.le_of_ble_eq_true c),fun a=>Pre.row _ a (Nat.le_of_ble_eq_true q1)⟩
noncomputable def cfgL:Cfg:={ gl:=fun _ _=>none,ext:=Zil,exs:=Zgp,isX:=fun f=>NB 1146749307995035755805410447651043470398282494584140561868794419693461438044247665280176239421299884032000 f,kp:=fun f=>NB 5261245203857480215647223808 f,im:=fun f=>NB 159454999699686663421860952481531785723171750266803201923912100394330450366104763040445232027265255588303129611862016 f,imx:=fun f g=>([(99,50),(141,50),(175,65),(138,88),(54,92),(55,92)]:List (Nat × Nat)).any (fun p=>Nat.beq p.1 f&&Nat.beq p.2 g),q:=100000,m:=0 }
theorem Zal {w0:World} (hM:US w0) (hP:Pow10 w0) (hT:Lib.Utf8Tabs 1 2 w0) (k:Nat) (f:FuncId) (args:List AV) (st:St) (v:AV) (st':St) (h:Hg Tryz.prog cfgL k none f args st=some (v,st')):ACalls Tryz.prog w0 f args st fun r s=>r=v∧s=st' :=
 Vv (by kernel_rfl) (fun _ _ _ h=>by cases h) (Zem hM hP hT) Zea k none f args st v st' h
end
set_option maxRecDepth 100000
section
noncomputable def S1:Code→Code
 | .seq a _=>a
 | c=>c
noncomputable def CC:Code→Code
 | .seq _ b=>b
 | c=>c
theorem KG {X:SX} {k:Nat} {c:Code} {e:Env} {st:St} {e1:Env} {s1:St} {r:QR} (hc:c = .seq (S1 c) (CC c)) (h1:It X k (S1 c) e st=some (.normal,e1,s1)) (h2:It X k (CC c) e1 s1=r):It X (k+1) c e st=r:=by
 rw [hc]
 show Zaj (It X k (CC c)) (It X k (S1 c) e st)=r
 rw [h1]
 exact h2
theorem Zgo {P:Program} {C:Cfg} {k:Nat} {f:FuncId} {fn:Func} {c:Code} {args:List AV} {x:Exit} {e:Env} {s:St} {r:Option (AV × St)} (hext:C.ext f args=none) (hf:P.funcs[f]? = some fn) (hb:fn.body=some c) (hc:fn.name ≠ "runtime.NumGoroutine" ∧ args.length≤fn.ntmps∧fn.ntmps≤1000000)
  (h:It ⟨P,fn.ntmps,true,⟨0,0,0⟩,C.at f (HW fn c),Ib (Hg P C k),Jn P (C.at f (HW fn c)) (Hg P C k) ⟨0,0,0⟩⟩ C.q c (AM 0 args) ⟨[],[],[]⟩=some (x,e,s)) (hx:x = .normal∨x = .ret) (ho:Q7 P C none f fn ⟨0,0,0⟩ ⟨[],[],[]⟩ e s=r):Hg P C (k+1) none f args ⟨[],[],[]⟩=r:=by
 rw [Hg]
 simp only [hext,hf,hb]
 rw [Ah hc]
 unfold Z9 Zjm
 simp only
 rw [SA]
 unfold SK
 rw [N5]
 have h:P4 P fn.ntmps true ⟨0,0,0⟩ (C.at f (HW fn c)) (Ib (Hg P C k)) (Jn P (C.at f (HW fn c)) (Hg P C k) ⟨0,0,0⟩) C.q c (AM 0 args) ⟨[],[],[]⟩=some (x,e,s):=h
 show (match P4 P fn.ntmps true ⟨0,0,0⟩ (C.at f (HW fn c)) (Ib (Hg P C k)) (Jn P (C.at f (HW fn c)) (Hg P C k) ⟨0,0,0⟩) C.q c (AM 0 args) ⟨[],[],[]⟩ with
  | some (.normal,e',s')=>Q7 P C none f fn ⟨0,0,0⟩ ⟨[],[],[]⟩ e' s'
  | some (.ret,e',s')=>Q7 P C none f fn ⟨0,0,0⟩ ⟨[],[],[]⟩ e' s'
  | _=>none)=r
 rw [h]
 rcases hx with rfl | rfl<;>exact ho
noncomputable def kC:Code:=(Tryz.f9.body).getD .skip
noncomputable def kX:SX:=⟨Tryz.prog,Tryz.f9.ntmps,true,⟨0,0,0⟩,cfgL.at 9 (HW Tryz.f9 kC),Ib (Hg Tryz.prog cfgL 59),Jn Tryz.prog (cfgL.at 9 (HW Tryz.f9 kC)) (Hg Tryz.prog cfgL 59) ⟨0,0,0⟩⟩
end
set_option maxRecDepth 100000
set_option maxHeartbeats 4000000
noncomputable def kE0:Env:=[]
noncomputable def kS0:St:=⟨[],[],[]⟩
noncomputable def kE1:Env:=[(0,(true,(.val (.bool false))))]
noncomputable def kS1:St:=⟨[],[],[]⟩
noncomputable def kE2:Env:=[(1,(true,(.box 0 0))),(0,(true,(.val (.bool false))))]
noncomputable def kS2:St:=⟨[[(.val (.string ⟨#[115,97,103,97]⟩)),(Ak 10),(Ak 0),(Ak 0),(Ak 0),(Ak 0),(Ak 5),(.val (.string ⟨#[]⟩)),(Ak 9),(Ak 0),(Ak 0),(Ak 0),(.list [] .none),(.list [] .none),(.list [(.agg [(Ak 1),(.val (.string ⟨#[110]⟩)),(Ak 1),(Ak 2),(Ak 0),(Ak 9),(Ak 0),(.list [] .none),(.list [] .none),(.list [] .none),(.list [] .none)])] .none),(.list [(.agg [(Ak 9),(Ak 0),(Ak 0),(Ak 0),(.list [] .none),(.list [] .none),(.list [(.agg [(Ak 1),(.val (.string ⟨#[110]⟩)),(Ak 1),(Ak 2),(Ak 0),(Ak 99),(Ak 0),(.list [] .none),(.list [] .none),(.list [] .none),(.list [] .none)])] .none)]),(.agg [(Ak 9),(Ak 0),(Ak 0),(Ak 0),(.list [] .none),(.list [] .none),(.list [(.agg [(Ak 1),(.val (.string ⟨#[111,107]⟩)),(Ak 1),(Ak 2),(Ak 0),(Ak 9),(Ak 0),(.list [] .none),(.list [] .none),(.list [] .none),(.list [] .none)])] .none)]),(.agg [(Ak 9),(Ak 0),(Ak 0),(Ak 0),(.list [] .none),(.list [] .none),(.list [(.agg [(Ak 1),(.val (.string ⟨#[110]⟩)),(Ak 1),(Ak 2),(Ak 0),(Ak 99),(Ak 0),(.list [] .none),(.list [] .none),(.list [] .none),(.list [] .none)])] .none)]),(.agg [(Ak 9),(Ak 0),(Ak 0),(Ak 0),(.list [] .none),(.list [] .none),(.list [(.agg [(Ak 1),(.val (.string ⟨#[111,107]⟩)),(Ak 1),(Ak 2),(Ak 0),(Ak 9),(Ak 0),(.list [] .none),(.list [] .none),(.list [] .none),(.list [] .none)])] .none)])] .none),(.list [] .none),(.list [(.agg [(.val (.string ⟨#[110]⟩)),(Ak 2),(Ak 0),(.val (.string ⟨#[114,101,112,108,121,50,46,111,107]⟩)),(.list [] .none),(.list [] .none)])] .none),(.list [(.agg [(.val (.string ⟨#[115,48]⟩)),(.list [(.agg [(.val (.string ⟨#[110]⟩)),(Ak 2),(Ak 0),(.val (.string ⟨#[98,111,100,121,46,110]⟩)),(.list [] .none),(.list [] .none)])] .none)]),(.agg [(.val (.string ⟨#[115,49]⟩)),(.list [(.agg [(.val (.string ⟨#[110]⟩)),(Ak 2),(Ak 0),(.val (.string ⟨#[98,111,100,121,46,110]⟩)),(.list [] .none),(.list [] .none)])] .none)])] .none),(.list [] .none)]],[],[]⟩
noncomputable def kE3:Env:=[(2,(true,(.box 1 0))),(0,(true,(.val (.bool false)))),(1,(true,(.box 0 0)))]
noncomputable def kS3:St:=⟨[[(.val (.string ⟨#[115,97,103,97]⟩)),(Ak 10),(Ak 0),(Ak 0),(Ak 0),(Ak 0),(Ak 5),(.val (.string ⟨#[]⟩)),(Ak 9),(Ak 0),(Ak 0),(Ak 0),(.list [] .none),(.list [] .none),(.list [(.agg [(Ak 1),(.val (.string ⟨#[110]⟩)),(Ak 1),(Ak 2),(Ak 0),(Ak 9),(Ak 0),(.list [] .none),(.list [] .none),(.list [] .none),(.list [] .none)])] .none),(.list [(.agg [(Ak 9),(Ak 0),(Ak 0),(Ak 0),(.list [] .none),(.list [] .none),(.list [(.agg [(Ak 1),(.val (.string ⟨#[110]⟩)),(Ak 1),(Ak 2),(Ak 0),(Ak 99),(Ak 0),(.list [] .none),(.list [] .none),(.list [] .none),(.list [] .none)])] .none)]),(.agg [(Ak 9),(Ak 0),(Ak 0),(Ak 0),(.list [] .none),(.list [] .none),(.list [(.agg [(Ak 1),(.val (.string ⟨#[111,107]⟩)),(Ak 1),(Ak 2),(Ak 0),(Ak 9),(Ak 0),(.list [] .none),(.list [] .none),(.list [] .none),(.list [] .none)])] .none)]),(.agg [(Ak 9),(Ak 0),(Ak 0),(Ak 0),(.list [] .none),(.list [] .none),(.list [(.agg [(Ak 1),(.val (.string ⟨#[110]⟩)),(Ak 1),(Ak 2),(Ak 0),(Ak 99),(Ak 0),(.list [] .none),(.list [] .none),(.list [] .none),(.list [] .none)])] .none)]),(.agg [(Ak 9),(Ak 0),(Ak 0),(Ak 0),(.list [] .none),(.list [] .none),(.list [(.agg [(Ak 1),(.val (.string ⟨#[111,107]⟩)),(Ak 1),(Ak 2),(Ak 0),(Ak 9),(Ak 0),(.list [] .none),(.list [] .none),(.list [] .none),(.list [] .none)])] .none)])] .none),(.list [] .none),(.list [(.agg [(.val (.string ⟨#[110]⟩)),(Ak 2),(Ak 0),(.val (.string ⟨#[114,101,112,108,121,50,46,111,107]⟩)),(.list [] .none),(.list [] .none)])] .none),(.list [(.agg [(.val (.string ⟨#[115,48]⟩)),(.list [(.agg [(.val (.string ⟨#[110]⟩)),(Ak 2),(Ak 0),(.val (.string ⟨#[98,111,100,121,46,110]⟩)),(.list [] .none),(.list [] .none)])] .none)]),(.agg [(.val (.string ⟨#[115,49]⟩)),(.list [(.agg [(.val (.string ⟨#[110]⟩)),(Ak 2),(Ak 0),(.val (.string ⟨#[98,111,100,121,46,110]⟩)),(.list [] .none),(.list [] .none)])] .none)])] .none),(.list [] .none)],[(Ak 2),(Ak 0),(.list [(.agg [(Ak 2),(Ak 1),(Ak 0),(.val (.string ⟨#[]⟩)),(.list [] .none),(.list [] .none),(Ak 0),(Ak 0),(.list [(.agg [(Ak 5),(.list [(Ak 1)] .none),(Ak 1048576),(.list [(Ak 5)] .none),(Ak 9),(Ak 0),(Ak 0),(.val (.string ⟨#[]⟩)),(.list [] .none),(.list [(.agg [(.val (.string ⟨#[110]⟩)),(Ak 2),(Ak 3),(Ak 0),(.val (.string ⟨#[]⟩)),(.list [] .none),(.list [] .none)])] .none)])] .none),(.list [(.agg [(Ak 9),(Ak 0),(Ak 0),(.val (.string ⟨#[]⟩)),(.list [] .none),(.list [(.agg [(.val (.string ⟨#[110]⟩)),(Ak 2),(Ak 3),(Ak 0),(.val (.string ⟨#[]⟩)),(.list [] .none),(.list [] .none)])] .none)])] .none)])] .none),(.list [] .none),(.list [(.agg [(Ak 5),(.list [(Ak 1),(Ak 0)] .none),(.val (.string ⟨#[115,48]⟩)),(Ak 1),(.val (.bool false)),(Ak 9),(Ak 0),(Ak 0),(.val (.string ⟨#[]⟩)),(.list [] .none),(.list [(.agg [(.val (.string ⟨#[110]⟩)),(Ak 2),(Ak 3),(Ak 0),(.val (.string ⟨#[]⟩)),(.list [] .none),(.list [] .none)])] .none)])] .none),(.list [] .none),(.list [] .none)]],[],[]⟩
noncomputable def kE4:Env:=[(3,(true,(.box 2 0))),(1,(true,(.box 0 0))),(0,(true,(.val (.bool false)))),(2,(true,(.box 1 0)))]
noncomputable def kS4:St:=⟨[[(.val (.string ⟨#[115,97,103,97]⟩)),(Ak 10),(Ak 0),(Ak 0),(Ak 0),(Ak 0),(Ak 5),(.val (.string ⟨#[]⟩)),(Ak 9),(Ak 0),(Ak 0),(Ak 0),(.list [] .none),(.list [] .none),(.list [(.agg [(Ak 1),(.val (.string ⟨#[110]⟩)),(Ak 1),(Ak 2),(Ak 0),(Ak 9),(Ak 0),(.list [] .none),(.list [] .none),(.list [] .none),(.list [] .none)])] .none),(.list [(.agg [(Ak 9),(Ak 0),(Ak 0),(Ak 0),(.list [] .none),(.list [] .none),(.list [(.agg [(Ak 1),(.val (.string ⟨#[110]⟩)),(Ak 1),(Ak 2),(Ak 0),(Ak 99),(Ak 0),(.list [] .none),(.list [] .none),(.list [] .none),(.list [] .none)])] .none)]),(.agg [(Ak 9),(Ak 0),(Ak 0),(Ak 0),(.list [] .none),(.list [] .none),(.list [(.agg [(Ak 1),(.val (.string ⟨#[111,107]⟩)),(Ak 1),(Ak 2),(Ak 0),(Ak 9),(Ak 0),(.list [] .none),(.list [] .none),(.list [] .none),(.list [] .none)])] .none)]),(.agg [(Ak 9),(Ak 0),(Ak 0),(Ak 0),(.list [] .none),(.list [] .none),(.list [(.agg [(Ak 1),(.val (.string ⟨#[110]⟩)),(Ak 1),(Ak 2),(Ak 0),(Ak 99),(Ak 0),(.list [] .none),(.list [] .none),(.list [] .none),(.list [] .none)])] .none)]),(.agg [(Ak 9),(Ak 0),(Ak 0),(Ak 0),(.list [] .none),(.list [] .none),(.list [(.agg [(Ak 1),(.val (.string ⟨#[111,107]⟩)),(Ak 1),(Ak 2),(Ak 0),(Ak 9),(Ak 0),(.list [] .none),(.list [] .none),(.list [] .none),(.list [] .none)])] .none)])] .none),(.list [] .none),(.list [(.agg [(.val (.string ⟨#[110]⟩)),(Ak 2),(Ak 0),(.val (.string ⟨#[114,101,112,108,121,50,46,111,107]⟩)),(.list [] .none),(.list [] .none)])] .none),(.list [(.agg [(.val (.string ⟨#[115,48]⟩)),(.list [(.agg [(.val (.string ⟨#[110]⟩)),(Ak 2),(Ak 0),(.val (.string ⟨#[98,111,100,121,46,110]⟩)),(.list [] .none),(.list [] .none)])] .none)]),(.agg [(.val (.string ⟨#[115,49]⟩)),(.list [(.agg [(.val (.string ⟨#[110]⟩)),(Ak 2),(Ak 0),(.val (.string ⟨#[98,111,100,121,46,110]⟩)),(.list [] .none),(.list [] .none)])] .none)])] .none),(.list [] .none)],[(Ak 2),(Ak 0),(.list [(.agg [(Ak 2),(Ak 1),(Ak 0),(.val (.string ⟨#[]⟩)),(.list [] .none),(.list [] .none),(Ak 0),(Ak 0),(.list [(.agg [(Ak 5),(.list [(Ak 1)] .none),(Ak 1048576),(.list [(Ak 5)] .none),(Ak 9),(Ak 0),(Ak 0),(.val (.string ⟨#[]⟩)),(.list [] .none),(.list [(.agg [(.val (.string ⟨#[110]⟩)),(Ak 2),(Ak 3),(Ak 0),(.val (.string ⟨#[]⟩)),(.list [] .none),(.list [] .none)])] .none)])] .none),(.list [(.agg [(Ak 9),(Ak 0),(Ak 0),(.val (.string ⟨#[]⟩)),(.list [] .none),(.list [(.agg [(.val (.string ⟨#[110]⟩)),(Ak 2),(Ak 3),(Ak 0),(.val (.string ⟨#[]⟩)),(.list [] .none),(.list [] .none)])] .none)])] .none)])] .none),(.list [] .none),(.list [(.agg [(Ak 5),(.list [(Ak 1),(Ak 0)] .none),(.val (.string ⟨#[115,48]⟩)),(Ak 1),(.val (.bool false)),(Ak 9),(Ak 0),(Ak 0),(.val (.string ⟨#[]⟩)),(.list [] .none),(.list [(.agg [(.val (.string ⟨#[110]⟩)),(Ak 2),(Ak 3),(Ak 0),(.val (.string ⟨#[]⟩)),(.list [] .none),(.list [] .none)])] .none)])] .none),(.list [] .none),(.list [] .none)],[(Ak 2),(Ak 0),(.list [(.agg [(Ak 2),(Ak 1),(Ak 0),(.val (.string ⟨#[]⟩)),(.list [] .none),(.list [] .none),(Ak 1),(Ak 0),(.list [(.agg [(Ak 5),(.list [(Ak 1)] .none),(Ak 1048576),(.list [(Ak 5)] .none),(Ak 9),(Ak 0),(Ak 0),(.val (.string ⟨#[]⟩)),(.list [] .none),(.list [(.agg [(.val (.string ⟨#[110]⟩)),(Ak 2),(Ak 3),(Ak 0),(.val (.string ⟨#[]⟩)),(.list [] .none),(.list [] .none)])] .none)])] .none),(.list [(.agg [(Ak 9),(Ak 0),(Ak 0),(.val (.string ⟨#[]⟩)),(.list [] .none),(.list [(.agg [(.val (.string ⟨#[110]⟩)),(Ak 2),(Ak 3),(Ak 0),(.val (.string ⟨#[]⟩)),(.list [] .none),(.list [] .none)])] .none)]),(.agg [(Ak 9),(Ak 0),(Ak 0),(.val (.string ⟨#[]⟩)),(.list [] .none),(.list [(.agg [(.val (.string ⟨#[111,107]⟩)),(Ak 2),(Ak 1),(Ak 0),(.val (.string ⟨#[]⟩)),(.list [] .none),(.list [] .none)])] .none)]),(.agg [(Ak 9),(Ak 0),(Ak 0),(.val (.string ⟨#[]⟩)),(.list [] .none),(.list [(.agg [(.val (.string ⟨#[110]⟩)),(Ak 2),(Ak 3),(Ak 0),(.val (.string ⟨#[]⟩)),(.list [] .none),(.list [] .none)])] .none)])] .none)])] .none),(.list [] .none),(.list [(.agg [(Ak 7),(.list [(Ak 1),(Ak 0)] .none),(.val (.string ⟨#[115,49]⟩)),(Ak 2),(.val (.bool false)),(Ak 9),(Ak 0),(Ak 0),(.val (.string ⟨#[]⟩)),(.list [] .none),(.list [(.agg [(.val (.string ⟨#[110]⟩)),(Ak 2),(Ak 3),(Ak 0),(.val (.string ⟨#[]⟩)),(.list [] .none),(.list [] .none)])] .none)])] .none),(.list [] .none),(.list [] .none)]],[],[]⟩
noncomputable def kE5:Env:=[(4,(true,(.box 3 0))),(2,(true,(.box 1 0))),(0,(true,(.val (.bool false)))),(1,(true,(.box 0 0))),(3,(true,(.box 2 0)))]
noncomputable def kS5:St:=⟨[[(.val (.string ⟨#[115,97,103,97]⟩)),(Ak 10),(Ak 0),(Ak 0),(Ak 0),(Ak 0),(Ak 5),(.val (.string ⟨#[]⟩)),(Ak 9),(Ak 0),(Ak 0),(Ak 0),(.list [] .none),(.list [] .none),(.list [(.agg [(Ak 1),(.val (.string ⟨#[110]⟩)),(Ak 1),(Ak 2),(Ak 0),(Ak 9),(Ak 0),(.list [] .none),(.list [] .none),(.list [] .none),(.list [] .none)])] .none),(.list [(.agg [(Ak 9),(Ak 0),(Ak 0),(Ak 0),(.list [] .none),(.list [] .none),(.list [(.agg [(Ak 1),(.val (.string ⟨#[110]⟩)),(Ak 1),(Ak 2),(Ak 0),(Ak 99),(Ak 0),(.list [] .none),(.list [] .none),(.list [] .none),(.list [] .none)])] .none)]),(.agg [(Ak 9),(Ak 0),(Ak 0),(Ak 0),(.list [] .none),(.list [] .none),(.list [(.agg [(Ak 1),(.val (.string ⟨#[111,107]⟩)),(Ak 1),(Ak 2),(Ak 0),(Ak 9),(Ak 0),(.list [] .none),(.list [] .none),(.list [] .none),(.list [] .none)])] .none)]),(.agg [(Ak 9),(Ak 0),(Ak 0),(Ak 0),(.list [] .none),(.list [] .none),(.list [(.agg [(Ak 1),(.val (.string ⟨#[110]⟩)),(Ak 1),(Ak 2),(Ak 0),(Ak 99),(Ak 0),(.list [] .none),(.list [] .none),(.list [] .none),(.list [] .none)])] .none)]),(.agg [(Ak 9),(Ak 0),(Ak 0),(Ak 0),(.list [] .none),(.list [] .none),(.list [(.agg [(Ak 1),(.val (.string ⟨#[111,107]⟩)),(Ak 1),(Ak 2),(Ak 0),(Ak 9),(Ak 0),(.list [] .none),(.list [] .none),(.list [] .none),(.list [] .none)])] .none)])] .none),(.list [] .none),(.list [(.agg [(.val (.string ⟨#[110]⟩)),(Ak 2),(Ak 0),(.val (.string ⟨#[114,101,112,108,121,50,46,111,107]⟩)),(.list [] .none),(.list [] .none)])] .none),(.list [(.agg [(.val (.string ⟨#[115,48]⟩)),(.list [(.agg [(.val (.string ⟨#[110]⟩)),(Ak 2),(Ak 0),(.val (.string ⟨#[98,111,100,121,46,110]⟩)),(.list [] .none),(.list [] .none)])] .none)]),(.agg [(.val (.string ⟨#[115,49]⟩)),(.list [(.agg [(.val (.string ⟨#[110]⟩)),(Ak 2),(Ak 0),(.val (.string ⟨#[98,111,100,121,46,110]⟩)),(.list [] .none),(.list [] .none)])] .none)])] .none),(.list [] .none)],[(Ak 2),(Ak 0),(.list [(.agg [(Ak 2),(Ak 1),(Ak 0),(.val (.string ⟨#[]⟩)),(.list [] .none),(.list [] .none),(Ak 0),(Ak 0),(.list [(.agg [(Ak 5),(.list [(Ak 1)] .none),(Ak 1048576),(.list [(Ak 5)] .none),(Ak 9),(Ak 0),(Ak 0),(.val (.string ⟨#[]⟩)),(.list [] .none),(.list [(.agg [(.val (.string ⟨#[110]⟩)),(Ak 2),(Ak 3),(Ak 0),(.val (.string ⟨#[]⟩)),(.list [] .none),(.list [] .none)])] .none)])] .none),(.list [(.agg [(Ak 9),(Ak 0),(Ak 0),(.val (.string ⟨#[]⟩)),(.list [] .none),(.list [(.agg [(.val (.string ⟨#[110]⟩)),(Ak 2),(Ak 3),(Ak 0),(.val (.string ⟨#[]⟩)),(.list [] .none),(.list [] .none)])] .none)])] .none)])] .none),(.list [] .none),(.list [(.agg [(Ak 5),(.list [(Ak 1),(Ak 0)] .none),(.val (.string ⟨#[115,48]⟩)),(Ak 1),(.val (.bool false)),(Ak 9),(Ak 0),(Ak 0),(.val (.string ⟨#[]⟩)),(.list [] .none),(.list [(.agg [(.val (.string ⟨#[110]⟩)),(Ak 2),(Ak 3),(Ak 0),(.val (.string ⟨#[]⟩)),(.list [] .none),(.list [] .none)])] .none)])] .none),(.list [] .none),(.list [] .none)],[(Ak 2),(Ak 0),(.list [(.agg [(Ak 2),(Ak 1),(Ak 0),(.val (.string ⟨#[]⟩)),(.list [] .none),(.list [] .none),(Ak 1),(Ak 0),(.list [(.agg [(Ak 5),(.list [(Ak 1)] .none),(Ak 1048576),(.list [(Ak 5)] .none),(Ak 9),(Ak 0),(Ak 0),(.val (.string ⟨#[]⟩)),(.list [] .none),(.list [(.agg [(.val (.string ⟨#[110]⟩)),(Ak 2),(Ak 3),(Ak 0),(.val (.string ⟨#[]⟩)),(.list [] .none),(.list [] .none)])] .none)])] .none),(.list [(.agg [(Ak 9),(Ak 0),(Ak 0),(.val (.string ⟨#[]⟩)),(.list [] .none),(.list [(.agg [(.val (.string ⟨#[110]⟩)),(Ak 2),(Ak 3),(Ak 0),(.val (.string ⟨#[]⟩)),(.list [] .none),(.list [] .none)])] .none)]),(.agg [(Ak 9),(Ak 0),(Ak 0),(.val (.string ⟨#[]⟩)),(.list [] .none),(.list [(.agg [(.val (.string ⟨#[111,107]⟩)),(Ak 2),(Ak 1),(Ak 0),(.val (.string ⟨#[]⟩)),(.list [] .none),(.list [] .none)])] .none)]),(.agg [(Ak 9),(Ak 0),(Ak 0),(.val (.string ⟨#[]⟩)),(.list [] .none),(.list [(.agg [(.val (.string ⟨#[110]⟩)),(Ak 2),(Ak 3),(Ak 0),(.val (.string ⟨#[]⟩)),(.list [] .none),(.list [] .none)])] .none)])] .none)])] .none),(.list [] .none),(.list [(.agg [(Ak 7),(.list [(Ak 1),(Ak 0)] .none),(.val (.string ⟨#[115,49]⟩)),(Ak 2),(.val (.bool false)),(Ak 9),(Ak 0),(Ak 0),(.val (.string ⟨#[]⟩)),(.list [] .none),(.list [(.agg [(.val (.string ⟨#[110]⟩)),(Ak 2),(Ak 3),(Ak 0),(.val (.string ⟨#[]⟩)),(.list [] .none),(.list [] .none)])] .none)])] .none),(.list [] .none),(.list [] .none)],[(Ak 2),(Ak 0),(.list [(.agg [(Ak 2),(Ak 1),(Ak 0),(.val (.string ⟨#[]⟩)),(.list [] .none),(.list [] .none),(Ak 2),(Ak 0),(.list [(.agg [(Ak 5),(.list [(Ak 1)] .none),(Ak 1048576),(.list [(Ak 5)] .none),(Ak 9),(Ak 0),(Ak 0),(.val (.string ⟨#[]⟩)),(.list [] .none),(.list [(.agg [(.val (.string ⟨#[110]⟩)),(Ak 2),(Ak 3),(Ak 0),(.val (.string ⟨#[]⟩)),(.list [] .none),(.list [] .none)])] .none)])] .none),(.list [(.agg [(Ak 9),(Ak 0),(Ak 0),(.val (.string ⟨#[]⟩)),(.list [] .none),(.list [(.agg [(.val (.string ⟨#[110]⟩)),(Ak 2),(Ak 3),(Ak 0),(.val (.string ⟨#[]⟩)),(.list [] .none),(.list [] .none)])] .none)]),(.agg [(Ak 9),(Ak 0),(Ak 0),(.val (.string ⟨#[]⟩)),(.list [] .none),(.list [(.agg [(.val (.string ⟨#[111,107]⟩)),(Ak 2),(Ak 1),(Ak 0),(.val (.string ⟨#[]⟩)),(.list [] .none),(.list [] .none)])] .none)]),(.agg [(Ak 9),(Ak 0),(Ak 0),(.val (.string ⟨#[]⟩)),(.list [] .none),(.list [(.agg [(.val (.string ⟨#[110]⟩)),(Ak 2),(Ak 3),(Ak 0),(.val (.string ⟨#[]⟩)),(.list [] .none),(.list [] .none)])] .none)])] .none)])] .none),(.list [] .none),(.list [(.agg [(Ak 9),(.list [(Ak 1),(Ak 0)] .none),(.val (.string ⟨#[115,48]⟩)),(Ak 1),(.val (.bool true)),(Ak 9),(Ak 0),(Ak 0),(.val (.string ⟨#[]⟩)),(.list [] .none),(.list [(.agg [(.val (.string ⟨#[110]⟩)),(Ak 2),(Ak 3),(Ak 0),(.val (.string ⟨#[]⟩)),(.list [] .none),(.list [] .none)])] .none)])] .none),(.list [] .none),(.list [] .none)]],[],[]⟩
noncomputable def kE6:Env:=[(5,(true,(.box 4 0))),(3,(true,(.box 2 0))),(1,(true,(.box 0 0))),(0,(true,(.val (.bool false)))),(2,(true,(.box 1 0))),(4,(true,(.box 3 0)))]
noncomputable def kS6:St:=⟨[[(.val (.string ⟨#[115,97,103,97]⟩)),(Ak 10),(Ak 0),(Ak 0),(Ak 0),(Ak 0),(Ak 5),(.val (.string ⟨#[]⟩)),(Ak 9),(Ak 0),(Ak 0),(Ak 0),(.list [] .none),(.list [] .none),(.list [(.agg [(Ak 1),(.val (.string ⟨#[110]⟩)),(Ak 1),(Ak 2),(Ak 0),(Ak 9),(Ak 0),(.list [] .none),(.list [] .none),(.list [] .none),(.list [] .none)])] .none),(.list [(.agg [(Ak 9),(Ak 0),(Ak 0),(Ak 0),(.list [] .none),(.list [] .none),(.list [(.agg [(Ak 1),(.val (.string ⟨#[110]⟩)),(Ak 1),(Ak 2),(Ak 0),(Ak 99),(Ak 0),(.list [] .none),(.list [] .none),(.list [] .none),(.list [] .none)])] .none)]),(.agg [(Ak 9),(Ak 0),(Ak 0),(Ak 0),(.list [] .none),(.list [] .none),(.list [(.agg [(Ak 1),(.val (.string ⟨#[111,107]⟩)),(Ak 1),(Ak 2),(Ak 0),(Ak 9),(Ak 0),(.list [] .none),(.list [] .none),(.list [] .none),(.list [] .none)])] .none)]),(.agg [(Ak 9),(Ak 0),(Ak 0),(Ak 0),(.list [] .none),(.list [] .none),(.list [(.agg [(Ak 1),(.val (.string ⟨#[110]⟩)),(Ak 1),(Ak 2),(Ak 0),(Ak 99),(Ak 0),(.list [] .none),(.list [] .none),(.list [] .none),(.list [] .none)])] .none)]),(.agg [(Ak 9),(Ak 0),(Ak 0),(Ak 0),(.list [] .none),(.list [] .none),(.list [(.agg [(Ak 1),(.val (.string ⟨#[111,107]⟩)),(Ak 1),(Ak 2),(Ak 0),(Ak 9),(Ak 0),(.list [] .none),(.list [] .none),(.list [] .none),(.list [] .none)])] .none)])] .none),(.list [] .none),(.list [(.agg [(.val (.string ⟨#[110]⟩)),(Ak 2),(Ak 0),(.val (.string ⟨#[114,101,112,108,121,50,46,111,107]⟩)),(.list [] .none),(.list [] .none)])] .none),(.list [(.agg [(.val (.string ⟨#[115,48]⟩)),(.list [(.agg [(.val (.string ⟨#[110]⟩)),(Ak 2),(Ak 0),(.val (.string ⟨#[98,111,100,121,46,110]⟩)),(.list [] .none),(.list [] .none)])] .none)]),(.agg [(.val (.string ⟨#[115,49]⟩)),(.list [(.agg [(.val (.string ⟨#[110]⟩)),(Ak 2),(Ak 0),(.val (.string ⟨#[98,111,100,121,46,110]⟩)),(.list [] .none),(.list [] .none)])] .none)])] .none),(.list [] .none)],[(Ak 2),(Ak 0),(.list [(.agg [(Ak 2),(Ak 1),(Ak 0),(.val (.string ⟨#[]⟩)),(.list [] .none),(.list [] .none),(Ak 0),(Ak 0),(.list [(.agg [(Ak 5),(.list [(Ak 1)] .none),(Ak 1048576),(.list [(Ak 5)] .none),(Ak 9),(Ak 0),(Ak 0),(.val (.string ⟨#[]⟩)),(.list [] .none),(.list [(.agg [(.val (.string ⟨#[110]⟩)),(Ak 2),(Ak 3),(Ak 0),(.val (.string ⟨#[]⟩)),(.list [] .none),(.list [] .none)])] .none)])] .none),(.list [(.agg [(Ak 9),(Ak 0),(Ak 0),(.val (.string ⟨#[]⟩)),(.list [] .none),(.list [(.agg [(.val (.string ⟨#[110]⟩)),(Ak 2),(Ak 3),(Ak 0),(.val (.string ⟨#[]⟩)),(.list [] .none),(.list [] .none)])] .none)])] .none)])] .none),(.list [] .none),(.list [(.agg [(Ak 5),(.list [(Ak 1),(Ak 0)] .none),(.val (.string ⟨#[115,48]⟩)),(Ak 1),(.val (.bool false)),(Ak 9),(Ak 0),(Ak 0),(.val (.string ⟨#[]⟩)),(.list [] .none),(.list [(.agg [(.val (.string ⟨#[110]⟩)),(Ak 2),(Ak 3),(Ak 0),(.val (.string ⟨#[]⟩)),(.list [] .none),(.list [] .none)])] .none)])] .none),(.list [] .none),(.list [] .none)],[(Ak 2),(Ak 0),(.list [(.agg [(Ak 2),(Ak 1),(Ak 0),(.val (.string ⟨#[]⟩)),(.list [] .none),(.list [] .none),(Ak 1),(Ak 0),(.list [(.agg [(Ak 5),(.list [(Ak 1)] .none),(Ak 1048576),(.list [(Ak 5)] .none),(Ak 9),(Ak 0),(Ak 0),(.val (.string ⟨#[]⟩)),(.list [] .none),(.list [(.agg [(.val (.string ⟨#[110]⟩)),(Ak 2),(Ak 3),(Ak 0),(.val (.string ⟨#[]⟩)),(.list [] .none),(.list [] .none)])] .none)])] .none),(.list [(.agg [(Ak 9),(Ak 0),(Ak 0),(.val (.string ⟨#[]⟩)),(.list [] .none),(.list [(.agg [(.val (.string ⟨#[110]⟩)),(Ak 2),(Ak 3),(Ak 0),(.val (.string ⟨#[]⟩)),(.list [] .none),(.list [] .none)])] .none)]),(.agg [(Ak 9),(Ak 0),(Ak 0),(.val (.string ⟨#[]⟩)),(.list [] .none),(.list [(.agg [(.val (.string ⟨#[111,107]⟩)),(Ak 2),(Ak 1),(Ak 0),(.val (.string ⟨#[]⟩)),(.list [] .none),(.list [] .none)])] .none)]),(.agg [(Ak 9),(Ak 0),(Ak 0),(.val (.string ⟨#[]⟩)),(.list [] .none),(.list [(.agg [(.val (.string ⟨#[110]⟩)),(Ak 2),(Ak 3),(Ak 0),(.val (.string ⟨#[]⟩)),(.list [] .none),(.list [] .none)])] .none)])] .none)])] .none),(.list [] .none),(.list [(.agg [(Ak 7),(.list [(Ak 1),(Ak 0)] .none),(.val (.string ⟨#[115,49]⟩)),(Ak 2),(.val (.bool false)),(Ak 9),(Ak 0),(Ak 0),(.val (.string ⟨#[]⟩)),(.list [] .none),(.list [(.agg [(.val (.string ⟨#[110]⟩)),(Ak 2),(Ak 3),(Ak 0),(.val (.string ⟨#[]⟩)),(.list [] .none),(.list [] .none)])] .none)])] .none),(.list [] .none),(.list [] .none)],[(Ak 2),(Ak 0),(.list [(.agg [(Ak 2),(Ak 1),(Ak 0),(.val (.string ⟨#[]⟩)),(.list [] .none),(.list [] .none),(Ak 2),(Ak 0),(.list [(.agg [(Ak 5),(.list [(Ak 1)] .none),(Ak 1048576),(.list [(Ak 5)] .none),(Ak 9),(Ak 0),(Ak 0),(.val (.string ⟨#[]⟩)),(.list [] .none),(.list [(.agg [(.val (.string ⟨#[110]⟩)),(Ak 2),(Ak 3),(Ak 0),(.val (.string ⟨#[]⟩)),(.list [] .none),(.list [] .none)])] .none)])] .none),(.list [(.agg [(Ak 9),(Ak 0),(Ak 0),(.val (.string ⟨#[]⟩)),(.list [] .none),(.list [(.agg [(.val (.string ⟨#[110]⟩)),(Ak 2),(Ak 3),(Ak 0),(.val (.string ⟨#[]⟩)),(.list [] .none),(.list [] .none)])] .none)]),(.agg [(Ak 9),(Ak 0),(Ak 0),(.val (.string ⟨#[]⟩)),(.list [] .none),(.list [(.agg [(.val (.string ⟨#[111,107]⟩)),(Ak 2),(Ak 1),(Ak 0),(.val (.string ⟨#[]⟩)),(.list [] .none),(.list [] .none)])] .none)]),(.agg [(Ak 9),(Ak 0),(Ak 0),(.val (.string ⟨#[]⟩)),(.list [] .none),(.list [(.agg [(.val (.string ⟨#[110]⟩)),(Ak 2),(Ak 3),(Ak 0),(.val (.string ⟨#[]⟩)),(.list [] .none),(.list [] .none)])] .none)])] .none)])] .none),(.list [] .none),(.list [(.agg [(Ak 9),(.list [(Ak 1),(Ak 0)] .none),(.val (.string ⟨#[115,48]⟩)),(Ak 1),(.val (.bool true)),(Ak 9),(Ak 0),(Ak 0),(.val (.string ⟨#[]⟩)),(.list [] .none),(.list [(.agg [(.val (.string ⟨#[110]⟩)),(Ak 2),(Ak 3),(Ak 0),(.val (.string ⟨#[]⟩)),(.list [] .none),(.list [] .none)])] .none)])] .none),(.list [] .none),(.list [] .none)],[(Ak 2),(Ak 0),(.list [] .none),(.list [(.agg [(Ak 0),(Ak 9),(.list [(Ak 1),(Ak 0)] .none),(Ak 1048576),(.list [(Ak 5)] .none),(Ak 9),(Ak 0),(Ak 0),(.val (.string ⟨#[]⟩)),(.list [] .none),(.list [(.agg [(.val (.string ⟨#[110]⟩)),(Ak 2),(Ak 4),(Ak 0),(.val (.string ⟨#[]⟩)),(.list [] .none),(.list [] .none)])] .none)])] .none),(.list [] .none),(.list [(.agg [(Ak 5),(.list [(Ak 1)] .none),(Ak 1),(.val (.string ⟨#[115,97,103,97]⟩)),(.list [(.agg [(Ak 9),(.list [(Ak 1),(Ak 0)] .none)])] .none),(.val (.string ⟨#[]⟩))])] .none),(.list [] .none)]],[],[]⟩
noncomputable def kE7:Env:=[(0,(true,(.val (.bool true)))),(5,(true,(.box 4 0))),(3,(true,(.box 2 0))),(1,(true,(.box 0 0))),(0,(true,(.val (.bool false)))),(2,(true,(.box 1 0))),(4,(true,(.box 3 0)))]
noncomputable def kS7:St:=⟨[[(.val (.string ⟨#[115,97,103,97]⟩)),(Ak 10),(Ak 0),(Ak 0),(Ak 0),(Ak 0),(Ak 5),(.val (.string ⟨#[]⟩)),(Ak 9),(Ak 0),(Ak 0),(Ak 0),(.list [] .none),(.list [] .none),(.list [(.agg [(Ak 1),(.val (.string ⟨#[110]⟩)),(Ak 1),(Ak 2),(Ak 0),(Ak 9),(Ak 0),(.list [] .none),(.list [] .none),(.list [] .none),(.list [] .none)])] .none),(.list [(.agg [(Ak 9),(Ak 0),(Ak 0),(Ak 0),(.list [] .none),(.list [] .none),(.list [(.agg [(Ak 1),(.val (.string ⟨#[110]⟩)),(Ak 1),(Ak 2),(Ak 0),(Ak 99),(Ak 0),(.list [] .none),(.list [] .none),(.list [] .none),(.list [] .none)])] .none)]),(.agg [(Ak 9),(Ak 0),(Ak 0),(Ak 0),(.list [] .none),(.list [] .none),(.list [(.agg [(Ak 1),(.val (.string ⟨#[111,107]⟩)),(Ak 1),(Ak 2),(Ak 0),(Ak 9),(Ak 0),(.list [] .none),(.list [] .none),(.list [] .none),(.list [] .none)])] .none)]),(.agg [(Ak 9),(Ak 0),(Ak 0),(Ak 0),(.list [] .none),(.list [] .none),(.list [(.agg [(Ak 1),(.val (.string ⟨#[110]⟩)),(Ak 1),(Ak 2),(Ak 0),(Ak 99),(Ak 0),(.list [] .none),(.list [] .none),(.list [] .none),(.list [] .none)])] .none)]),(.agg [(Ak 9),(Ak 0),(Ak 0),(Ak 0),(.list [] .none),(.list [] .none),(.list [(.agg [(Ak 1),(.val (.string ⟨#[111,107]⟩)),(Ak 1),(Ak 2),(Ak 0),(Ak 9),(Ak 0),(.list [] .none),(.list [] .none),(.list [] .none),(.list [] .none)])] .none)])] .none),(.list [] .none),(.list [(.agg [(.val (.string ⟨#[110]⟩)),(Ak 2),(Ak 0),(.val (.string ⟨#[114,101,112,108,121,50,46,111,107]⟩)),(.list [] .none),(.list [] .none)])] .none),(.list [(.agg [(.val (.string ⟨#[115,48]⟩)),(.list [(.agg [(.val (.string ⟨#[110]⟩)),(Ak 2),(Ak 0),(.val (.string ⟨#[98,111,100,121,46,110]⟩)),(.list [] .none),(.list [] .none)])] .none)]),(.agg [(.val (.string ⟨#[115,49]⟩)),(.list [(.agg [(.val (.string ⟨#[110]⟩)),(Ak 2),(Ak 0),(.val (.string ⟨#[98,111,100,121,46,110]⟩)),(.list [] .none),(.list [] .none)])] .none)])] .none),(.list [] .none)],[(Ak 2),(Ak 0),(.list [(.agg [(Ak 2),(Ak 1),(Ak 0),(.val (.string ⟨#[]⟩)),(.list [] .none),(.list [] .none),(Ak 0),(Ak 0),(.list [(.agg [(Ak 5),(.list [(Ak 1)] .none),(Ak 1048576),(.list [(Ak 5)] .none),(Ak 9),(Ak 0),(Ak 0),(.val (.string ⟨#[]⟩)),(.list [] .none),(.list [(.agg [(.val (.string ⟨#[110]⟩)),(Ak 2),(Ak 3),(Ak 0),(.val (.string ⟨#[]⟩)),(.list [] .none),(.list [] .none)])] .none)])] .none),(.list [(.agg [(Ak 9),(Ak 0),(Ak 0),(.val (.string ⟨#[]⟩)),(.list [] .none),(.list [(.agg [(.val (.string ⟨#[110]⟩)),(Ak 2),(Ak 3),(Ak 0),(.val (.string ⟨#[]⟩)),(.list [] .none),(.list [] .none)])] .none)])] .none)])] .none),(.list [] .none),(.list [(.agg [(Ak 5),(.list [(Ak 1),(Ak 0)] .none),(.val (.string ⟨#[115,48]⟩)),(Ak 1),(.val (.bool false)),(Ak 9),(Ak 0),(Ak 0),(.val (.string ⟨#[]⟩)),(.list [] .none),(.list [(.agg [(.val (.string ⟨#[110]⟩)),(Ak 2),(Ak 3),(Ak 0),(.val (.string ⟨#[]⟩)),(.list [] .none),(.list [] .none)])] .none)])] .none),(.list [] .none),(.list [] .none)],[(Ak 2),(Ak 0),(.list [(.agg [(Ak 2),(Ak 1),(Ak 0),(.val (.string ⟨#[]⟩)),(.list [] .none),(.list [] .none),(Ak 1),(Ak 0),(.list [(.agg [(Ak 5),(.list [(Ak 1)] .none),(Ak 1048576),(.list [(Ak 5)] .none),(Ak 9),(Ak 0),(Ak 0),(.val (.string ⟨#[]⟩)),(.list [] .none),(.list [(.agg [(.val (.string ⟨#[110]⟩)),(Ak 2),(Ak 3),(Ak 0),(.val (.string ⟨#[]⟩)),(.list [] .none),(.list [] .none)])] .none)])] .none),(.list [(.agg [(Ak 9),(Ak 0),(Ak 0),(.val (.string ⟨#[]⟩)),(.list [] .none),(.list [(.agg [(.val (.string ⟨#[110]⟩)),(Ak 2),(Ak 3),(Ak 0),(.val (.string ⟨#[]⟩)),(.list [] .none),(.list [] .none)])] .none)]),(.agg [(Ak 9),(Ak 0),(Ak 0),(.val (.string ⟨#[]⟩)),(.list [] .none),(.list [(.agg [(.val (.string ⟨#[111,107]⟩)),(Ak 2),(Ak 1),(Ak 0),(.val (.string ⟨#[]⟩)),(.list [] .none),(.list [] .none)])] .none)]),(.agg [(Ak 9),(Ak 0),(Ak 0),(.val (.string ⟨#[]⟩)),(.list [] .none),(.list [(.agg [(.val (.string ⟨#[110]⟩)),(Ak 2),(Ak 3),(Ak 0),(.val (.string ⟨#[]⟩)),(.list [] .none),(.list [] .none)])] .none)])] .none)])] .none),(.list [] .none),(.list [(.agg [(Ak 7),(.list [(Ak 1),(Ak 0)] .none),(.val (.string ⟨#[115,49]⟩)),(Ak 2),(.val (.bool false)),(Ak 9),(Ak 0),(Ak 0),(.val (.string ⟨#[]⟩)),(.list [] .none),(.list [(.agg [(.val (.string ⟨#[110]⟩)),(Ak 2),(Ak 3),(Ak 0),(.val (.string ⟨#[]⟩)),(.list [] .none),(.list [] .none)])] .none)])] .none),(.list [] .none),(.list [] .none)],[(Ak 2),(Ak 0),(.list [(.agg [(Ak 2),(Ak 1),(Ak 0),(.val (.string ⟨#[]⟩)),(.list [] .none),(.list [] .none),(Ak 2),(Ak 0),(.list [(.agg [(Ak 5),(.list [(Ak 1)] .none),(Ak 1048576),(.list [(Ak 5)] .none),(Ak 9),(Ak 0),(Ak 0),(.val (.string ⟨#[]⟩)),(.list [] .none),(.list [(.agg [(.val (.string ⟨#[110]⟩)),(Ak 2),(Ak 3),(Ak 0),(.val (.string ⟨#[]⟩)),(.list [] .none),(.list [] .none)])] .none)])] .none),(.list [(.agg [(Ak 9),(Ak 0),(Ak 0),(.val (.string ⟨#[]⟩)),(.list [] .none),(.list [(.agg [(.val (.string ⟨#[110]⟩)),(Ak 2),(Ak 3),(Ak 0),(.val (.string ⟨#[]⟩)),(.list [] .none),(.list [] .none)])] .none)]),(.agg [(Ak 9),(Ak 0),(Ak 0),(.val (.string ⟨#[]⟩)),(.list [] .none),(.list [(.agg [(.val (.string ⟨#[111,107]⟩)),(Ak 2),(Ak 1),(Ak 0),(.val (.string ⟨#[]⟩)),(.list [] .none),(.list [] .none)])] .none)]),(.agg [(Ak 9),(Ak 0),(Ak 0),(.val (.string ⟨#[]⟩)),(.list [] .none),(.list [(.agg [(.val (.string ⟨#[110]⟩)),(Ak 2),(Ak 3),(Ak 0),(.val (.string ⟨#[]⟩)),(.list [] .none),(.list [] .none)])] .none)])] .none)])] .none),(.list [] .none),(.list [(.agg [(Ak 9),(.list [(Ak 1),(Ak 0)] .none),(.val (.string ⟨#[115,48]⟩)),(Ak 1),(.val (.bool true)),(Ak 9),(Ak 0),(Ak 0),(.val (.string ⟨#[]⟩)),(.list [] .none),(.list [(.agg [(.val (.string ⟨#[110]⟩)),(Ak 2),(Ak 3),(Ak 0),(.val (.string ⟨#[]⟩)),(.list [] .none),(.list [] .none)])] .none)])] .none),(.list [] .none),(.list [] .none)],[(Ak 2),(Ak 0),(.list [] .none),(.list [(.agg [(Ak 0),(Ak 9),(.list [(Ak 1),(Ak 0)] .none),(Ak 1048576),(.list [(Ak 5)] .none),(Ak 9),(Ak 0),(Ak 0),(.val (.string ⟨#[]⟩)),(.list [] .none),(.list [(.agg [(.val (.string ⟨#[110]⟩)),(Ak 2),(Ak 4),(Ak 0),(.val (.string ⟨#[]⟩)),(.list [] .none),(.list [] .none)])] .none)])] .none),(.list [] .none),(.list [(.agg [(Ak 5),(.list [(Ak 1)] .none),(Ak 1),(.val (.string ⟨#[115,97,103,97]⟩)),(.list [(.agg [(Ak 9),(.list [(Ak 1),(Ak 0)] .none)])] .none),(.val (.string ⟨#[]⟩))])] .none),(.list [] .none)]],[(.vec 0 1 [(Ak 1),(Ak 0)])],[]⟩
set_option maxRecDepth 100000
set_option maxHeartbeats 4000000
theorem kP0:It kX 99999 (S1 (kC)) kE0 kS0=some (.normal,kE1,kS1):=by kernel_rfl
theorem kP1:It kX 99998 (S1 (CC (kC))) kE1 kS1=some (.normal,kE2,kS2):=by kernel_rfl
theorem kP6:It kX 99993 (S1 (CC (CC (CC (CC (CC (CC (kC)))))))) kE6 kS6=some (.normal,kE7,kS7):=by kernel_rfl
end Go.Proofs.YtcdnijfbfdnjlaaGreatDoor
