/-
  Part 6 of the proof: rules and walks that the claim's last text uses.
-/
import Derived.Deep.LoopGhost
import Derived.Deep.RegionLaw
import Derived.Lib.RowBridge
import Derived.Lib.SliceRun
import Derived.Lib.Walk
import Derived.Shelf.RegionOpenPlain
import Derived.Shelf.SlBodiesN
import Derived.Shelf.Slices.CompactS
import Derived.Shelf.Slices.In.SortNone
import Derived.Shelf.Sort.Plain
import Derived.WalkKit
import Derived.Test.YtmcnjijeocmkgaaGreatDoorLo5
set_option linter.unusedSimpArgs false
set_option linter.unusedVariables false
set_option maxRecDepth 100000
set_option maxHeartbeats 4000000
namespace Go.Ev
open Go Go.RowKit Go.Shelf Go.Sort Go.Lib Go.Proofs
section
variable {P:Program} {w0:World} {M:Mem} {w:World} {st:St}
theorem RelSt.turn {α:Type} [Inhabited α] (h:RelSt w0 M st w) {id ver:Nat} {cs cs':List AV} (hid:st.rows[id]? = some (.vec ver 1 cs)) (enc:α→Value) (D:Array α) {w':World} {q:Nat} {os:Array Obj}
  (hw:w'=grow (putRow enc (Go.Sort.ahead w q) (M.blk id) 0 D) os) (hD:D.size≤M.cap id) (hle:cs'.length≤D.size) (hone:∀ x∈cs',x.one=true) (hR:∀ i (h2:i<cs'.length),R w0 M w (enc D[i]!) cs'[i]) :
  Ext w0 M w M w'∧RelSt w0 M { st with rows:=st.rows.set id (.vec ver 1 cs') } w':=by
 obtain ⟨F,v,t,E,y,C,z,c,ty,n,m,r,p,s⟩:=h.row id _ hid
 have j:M.blk id<w.heap.size:=(Array.getElem?_eq_some_iff.1 n).1
 have a:w'.heap=w.heap.modify (M.blk id) (onCells (putCells enc 0 D))++os:=by rw [hw];rfl
 have f:w'.os=w.os∧w'.tape=w.tape∧w'.output=w.output:=by rw [hw];exact ⟨rfl,rfl,rfl⟩
 have d:∀ b,b<w.heap.size→b≠M.blk id→w'.heap[b]? = w.heap[b]? := fun b k l=>by
  rw [a,Array.getElem?_append_left (by simpa using k),Array.getElem?_modify,Aj (fun q=>l q.symm)]
 have g:(putCells enc 0 D c).size=c.size:=by simp [putCells]
 refine h.setVec (c':=putCells enc 0 D c) (ty:=ty) hid ⟨f.1,f.2.1,f.2.2,by rw [a];simp,fun b k=>d b (Nat.lt_of_lt_of_le k h.base_le) (by omega)⟩ d
  (by rw [a,Array.getElem?_append_left (by simpa using j),Array.getElem?_modify,Ai rfl,n];rfl) (by rw [g];exact m) (by rw [g,m];omega) hone (fun i u h2=>?_)
 have o:i<D.size:=by omega
 have e:(putCells enc 0 D c)[i]=enc D[i]! := by
  simp only [putCells,Array.getElem_mapIdx,Nat.zero_le,true_and,Nat.zero_add,Ai o,Nat.sub_zero]
 rw [e]
 exact hR i h2
abbrev bl (x:ByteArray):List UInt8:=x.data.toList
theorem RelSt.holdsStr (h:RelSt w0 M st w) {id ver:Nat} {xs:List ByteArray} (hid:st.rows[id]? = some (.vec ver 1 (xs.map fun x => .val (.string x)))) :
  Holds encStr w (M.blk id) 0 (xs.map bl).toArray∧M.blk id<w.heap.size:=by
 obtain ⟨n,q,o,u,m,r,p,c,t,a,s,l,k,b⟩:=h.row id _ hid
 refine ⟨fun j e=>?_,(Array.getElem?_eq_some_iff.1 a).1⟩
 have d:j<xs.length:=by simpa using e
 have g:j<(xs.map fun x=>(.val (.string x):AV)).length:=by simpa using d
 have f:j<c.size:=by omega
 have:=b j f g
 simp only [List.getElem_map] at this
 have ev:=this.val_inv.1
 have i:(xs.map bl).toArray[j]! = xs[j].data.toList:=by
  rw [getElem!_pos _ j e];simp
 rw [i]
 refine ⟨?_,?_⟩
 ·simp only [World.cell?,a,Nat.zero_add,id_eq]
  rw [Array.getElem?_eq_getElem f,ev]
  simp [encStr]
 ·simp [World.frozen?,a]
def sv (x:ByteArray):AV := .val (.string x)
def LD (xs:List ByteArray):List ByteArray:=((xs.map bl).mergeSort fun x y=>decide (x≤y)).map fun l=>⟨l.toArray⟩
def Js (xs:List ByteArray):List ByteArray:=(Lib.compact (xs.map bl)).map fun l=>⟨l.toArray⟩
theorem ML (xs:List ByteArray):(LD xs).length=xs.length:=by simp [LD]
theorem ZaY {xs:List ByteArray} {x:ByteArray} (h:x∈LD xs):x∈xs:=by
 simp only [LD,List.mem_map,List.mem_mergeSort] at h
 obtain ⟨l,⟨y,a,rfl⟩,rfl⟩:=h
 exact a
theorem Yw {zs:List (List UInt8)} {x:List UInt8} (h:x∈Lib.compact zs):x∈zs:=by
 unfold Lib.compact Lib.compactUpTo at h
 obtain ⟨j,b,rfl⟩:=List.mem_map.1 h
 have a:=List.mem_range.1 (List.mem_filter.1 b).1
 rw [getElem!_pos zs.toArray j (by simpa using a)]
 simp
theorem Zba {xs:List ByteArray} {x:ByteArray} (h:x∈Js xs):x∈xs:=by
 simp only [Js,List.mem_map] at h
 obtain ⟨l,b,rfl⟩:=h
 obtain ⟨y,a,rfl⟩:=List.mem_map.1 (Yw b)
 exact a
theorem X5 {v:Value} (h:R w0 M w v (.list [] .seed)):∃ p cap,v = .slice p 0 cap:=by
 generalize hx:AV.list [] .seed=x at h
 cases h<;>try cases hx
 ·exact ⟨_,_,rfl⟩
 ·exact ⟨_,_,rfl⟩
 ·exact ⟨_,_,rfl⟩
theorem RelSt.strLen (h:RelSt w0 M st w) {id ver:Nat} {xs:List ByteArray} (hid:st.rows[id]? = some (.vec ver 1 (xs.map sv))):∀ x∈xs,F2 (.string x)=true:=by
 obtain ⟨l,o,m,s,k,p,n,c,r,j,q,g,e,a⟩:=h.row id _ hid
 intro x f
 obtain ⟨i,b,rfl⟩:=List.mem_iff_getElem.1 f
 have d:i<(xs.map sv).length:=by simpa using b
 have:=a i (by omega) d
 simp only [List.getElem_map,sv] at this
 exact this.val_inv.2
theorem R9 {vals:Array Value} {x:AV} (h:RowR w0 M w vals [x]):∃ v,vals = #[v]∧R w0 M w v x:=by
 have hs:=h.1
 match vals,hs with
 | ⟨[a]⟩,_=>exact ⟨a,rfl,h.2 0 (by simp) (by simp)⟩
section
variable {ρ:Ren} {Rw rows:List RowA} {l:List (Nat × Nat × Own)} {ho:Own} {v:List VE} {o:VO} {xs:List ByteArray}
theorem ZdB (w0:World) (L:Lays.n190 P ρ) (hen:JQ P (ρ.f 190)) (hO:Owns Rw rows l ho ((o,1,xs.map sv)::v)) (hn:xs.length<4611686018427387904) :
  ∃ rows',Owns Rw rows' l ho ((o,1,(LD xs).map sv)::v)∧∀ (B:Ao) (Ls:As),ACalls P w0 (ρ.f 190) [Pn o xs.length] ⟨B,rows,Ls⟩ fun r s=>r = .tup []∧s=⟨B,rows',Ls⟩:=by
 by_cases hx:xs=[]
 ·subst hx
  refine ⟨rows,by rw [show LD []=[] by simp [LD]];exact hO,fun B Ls=>⟨hen,fun M w d b a=>?_⟩⟩
  obtain ⟨t,rfl,h0⟩:=R9 a
  obtain ⟨p,cap,rfl⟩:∃ p cap,t = .slice p 0 cap:=by
   cases o with
   | nil=>exact X5 h0
   | row id ver=>cases h0;exact ⟨_,_,rfl⟩
  refine (Any.slices_Sort_string_none L p cap w).mono ?_
  rintro en H ⟨rfl,rfl⟩
  exact ⟨_,M,.tup [],_,rfl,⟨rfl,rfl⟩,.refl _ _ _,b,.tup rfl (fun i h _=>absurd h (by simp))⟩
 ·obtain ⟨id,ver,rfl,a⟩:∃ id ver,o = .row id ver∧rows[id]? = some (.vec ver 1 (xs.map sv)):=by
   rcases hO.veach _ (List.mem_cons_self ..) with q | ⟨id,ver,q1,_,q3⟩
   ·exact absurd (List.map_eq_nil_iff.1 q.2) hx
   ·exact ⟨id,ver,q1,q3⟩
  refine ⟨_,hO.setV ver ((LD xs).map sv),fun B Ls=>⟨hen,fun M w d b c=>?_⟩⟩
  obtain ⟨t,rfl,h0⟩:=R9 c
  obtain ⟨E,g⟩:=b.holdsStr (xs:=xs) a
  have k:=b.strLen a
  have G:=(b.row id _ a).1
  cases h0 with
  | @vec _ _ _ _ p cap hi hver hh =>
  obtain ⟨rfl,m,K⟩:=hh G.symm
  have D:(some ⟨M.blk id,0*M.rsz id,none⟩:Option Addr)=some ⟨M.blk id,0,none⟩:=by rw [Nat.zero_mul]
  rw [D]
  have n:=Any.slices_Sort_string L (M.blk id) 0 cap (xs.map bl) w E g (by simpa using hn)
  rw [List.length_map] at n
  refine n.mono ?_
  rintro en H ⟨rfl,q,J,rfl⟩
  obtain ⟨z,C⟩:=b.turn (cs':=(LD xs).map sv) a encStr ((xs.map bl).mergeSort fun x y=>decide (x≤y)).toArray rfl (by simp;omega) (by simp [ML]) (fun x hx=>by
    obtain ⟨y,_,rfl⟩:=List.mem_map.1 hx;rfl) (fun i F=>by
    have j:i<(LD xs).length:=by simpa using F
    have u:i<((xs.map bl).mergeSort fun x y=>decide (x≤y)).toArray.size:=by simpa [ML] using j
    rw [getElem!_pos _ i u]
    have e:encStr (((xs.map bl).mergeSort fun x y=>decide (x≤y)).toArray[i]) = .string (LD xs)[i]:=by simp [LD,encStr]
    rw [e,List.getElem_map]
    exact .flat (k _ (ZaY (List.getElem_mem _))))
  exact ⟨.tuple #[],M,.tup [],_,rfl,⟨rfl,rfl⟩,z,C,.tup rfl (fun i h _=>absurd h (by simp))⟩
theorem Zcm (w0:World) (L:Lays.n194 P ρ) (hen:JQ P (ρ.f 194)) (hO:Owns Rw rows l ho ((o,1,xs.map sv)::v)) (hn:xs.length<4611686018427387904) :
  ∃ rows',Owns Rw rows' l ho ((o,1,(Js xs).map sv)::v)∧∀ (B:Ao) (Ls:As),ACalls P w0 (ρ.f 194) [Pn o xs.length] ⟨B,rows,Ls⟩ fun r s=>r=Pn o (Js xs).length∧s=⟨B,rows',Ls⟩:=by
 by_cases hx:xs=[]
 ·subst hx
  refine ⟨rows,hO,fun B Ls=>⟨hen,fun M w g b a=>?_⟩⟩
  obtain ⟨t,rfl,h0⟩:=R9 a
  obtain ⟨p,cap,rfl⟩:∃ p cap,t = .slice p 0 cap:=by
   cases o with
   | nil=>exact X5 h0
   | row id ver=>cases h0;exact ⟨_,_,rfl⟩
  refine (Any.slices_Compact_string_empty L p cap w).mono ?_
  rintro en w' ⟨rfl,rfl⟩
  exact ⟨_,M,_,_,rfl,⟨rfl,rfl⟩,.refl _ _ _,b,h0⟩
 ·obtain ⟨id,ver,rfl,a⟩:∃ id ver,o = .row id ver∧rows[id]? = some (.vec ver 1 (xs.map sv)):=by
   rcases hO.veach _ (List.mem_cons_self ..) with q | ⟨id,ver,q1,_,q3⟩
   ·exact absurd (List.map_eq_nil_iff.1 q.2) hx
   ·exact ⟨id,ver,q1,q3⟩
  refine ⟨_,hO.setV ver ((Js xs).map sv),fun B Ls=>⟨hen,fun M w g b d=>?_⟩⟩
  obtain ⟨t,rfl,h0⟩:=R9 d
  obtain ⟨G,n⟩:=b.holdsStr (xs:=xs) a
  have m:=b.strLen a
  have J:=(b.row id _ a).1
  cases h0 with
  | @vec _ _ _ _ p cap hi hver hh =>
  obtain ⟨rfl,h,E⟩:=hh J.symm
  have D:(some ⟨M.blk id,0*M.rsz id,none⟩:Option Addr)=some ⟨M.blk id,0,none⟩:=by rw [Nat.zero_mul]
  have k:=Any.slices_Compact_string L (M.blk id) 0 cap (xs.map bl) w G (by simp;omega) (by simpa using E)
  rw [List.length_map] at k
  have K:(Lib.compact (xs.map bl)).length≤xs.length:=by have:=Lib.compact_length_le (xs.map bl);simpa using this
  have c:(Js xs).length=(Lib.compact (xs.map bl)).length:=by simp [Js]
  rw [←D] at k
  refine k.mono ?_
  rintro en w' ⟨rfl,q,F⟩
  obtain ⟨z,C⟩:=b.turn (cs':=(Js xs).map sv) (q:=q) (os := #[]) (w':=w') a encStr (Lib.compact (xs.map bl)++List.replicate (xs.length-(Lib.compact (xs.map bl)).length) []).toArray (by rw [grow_empty,F]) (by simp;omega) (by simp [c]) (fun x hx=>by
    obtain ⟨y,_,rfl⟩:=List.mem_map.1 hx;rfl) (fun i H=>by
    have j:i<(Lib.compact (xs.map bl)).length:=by simpa [c] using H
    have u:i<(Lib.compact (xs.map bl)++List.replicate (xs.length-(Lib.compact (xs.map bl)).length) []).toArray.size:=by simp;omega
    rw [getElem!_pos _ i u]
    have e:encStr ((Lib.compact (xs.map bl)++List.replicate (xs.length-(Lib.compact (xs.map bl)).length) []).toArray[i]) = .string ((Js xs)[i]'(by rw [c];exact j)):=by
     simp only [encStr,Js,List.getElem_toArray,List.getElem_map,List.getElem_append_left j]
    rw [e,List.getElem_map]
    exact .flat (m _ (Zba (List.getElem_mem _))))
  refine ⟨_,M,.vec id ver 0 (Js xs).length,_,rfl,⟨rfl,rfl⟩,z,C,?_⟩
  rw [c]
  exact .vec hi hver fun hv=>⟨rfl,h,by omega⟩
end
end
end Go.Ev
namespace Go.Proofs.YtmcnjijeocmkgaaGreatDoor
open Go Go.RowKit Go.Ev
@[go_sem] theorem ZjW (n:Nat):Pn .nil n = .list [] .seed:=rfl
theorem ZgO (xs:List ByteArray):(xs.flatMap fun x=>(CB x).cells)=xs.map sv:=by
 induction xs with
 | nil=>rfl
 | cons x r ih=>rw [List.flatMap_cons,ih];rfl
theorem ZhR (l m:List ByteArray):(l.flatMap fun x=>(CB x).cells)++(m.map CB).flatMap (fun y=>y.pub.cells)=(l++m).flatMap fun x=>(CB x).cells:=by
 rw [List.flatMap_append,List.flatMap_map];rfl
def ZL (x:List UInt8):List (List UInt8)→List (List UInt8)
 | []=>[x]
 | y::r=>if decide (x≤y)=true then x::y::r else y::ZL x r
def S7:List (List UInt8)→List (List UInt8)
 | []=>[]
 | x::r=>ZL x (S7 r)
theorem Qx (x:List UInt8):∀ l,(ZL x l).Perm (x::l)
 | []=>List.Perm.refl _
 | y::r=>by
  unfold ZL
  split
  ·exact List.Perm.refl _
  ·exact ((Qx x r).cons y).trans (List.Perm.swap _ _ _)
theorem RG:∀ l,(S7 l).Perm l
 | []=>List.Perm.refl _
 | x::r=>(Qx x _).trans ((RG r).cons x)
theorem Zan (x:List UInt8):∀ l:List (List UInt8),l.Pairwise (fun a b=>a≤b)→(ZL x l).Pairwise (fun a b=>a≤b)
 | [],_=>by simp [ZL]
 | y::r,h=>by
  obtain ⟨d,e⟩:=List.pairwise_cons.1 h
  unfold ZL
  split
  ·rename_i c
   have c:x≤y:=of_decide_eq_true c
   refine List.pairwise_cons.2 ⟨fun z hz=>?_,h⟩
   rcases List.mem_cons.1 hz with rfl | hz
   ·exact c
   ·exact List.le_trans c (d z hz)
  ·rename_i c
   have c:y≤x:=by
    rcases List.le_total x y with q | q
    ·exact absurd (Ah q) c
    ·exact q
   refine List.pairwise_cons.2 ⟨fun z hz=>?_,Zan x r e⟩
   rcases List.mem_cons.1 ((Qx x r).mem_iff.1 hz) with rfl | hz
   ·exact c
   ·exact d z hz
theorem V8:∀ l,(S7 l).Pairwise (fun a b=>a≤b)
 | [] => .nil
 | x::r=>Zan x _ (V8 r)
theorem ZbC (l:List (List UInt8)):(l.mergeSort fun x y=>decide (x≤y))=S7 l:=by
 refine List.Perm.eq_of_pairwise (le:=fun a b=>a≤b) (fun a b _ _ d e=>List.le_antisymm d e) ?_ (V8 l) ((List.mergeSort_perm l _).trans (RG l).symm)
 have:=List.pairwise_mergeSort (le:=fun x y:List UInt8=>decide (x≤y)) (fun a b c d e=>Ah (List.le_trans (of_decide_eq_true d) (of_decide_eq_true e))) (fun a b=>by
  rcases List.le_total a b with q | q<;>simp [q]) l
 exact this.imp fun h=>of_decide_eq_true h
def Ji (xs:List ByteArray):List ByteArray:=(S7 (xs.map bl)).map fun l=>⟨l.toArray⟩
theorem Ya (xs:List ByteArray):LD xs=Ji xs:=by rw [LD,ZbC];rfl
theorem Fg (xs:List ByteArray):(Ji xs).length=xs.length:=by rw [←Ya,ML]
section
variable (w0:World) {Rw rows:List RowA} {l:List (Nat × Nat × Ev.Own)} {ho:Ev.Own} {v:List VE} {o:VO} {xs:List ByteArray}
theorem XY (hO:Owns Rw rows l ho ((o,1,xs.flatMap fun x=>(CB x).cells)::v)) (hn:xs.length<4611686018427387904) :
  ∃ rows',Owns Rw rows' l ho ((o,1,(Ji xs).flatMap fun x=>(CB x).cells)::v)∧∀ (B:Ao) (Ls:As),ACalls Tryz.prog w0 159 [Pn o xs.length] ⟨B,rows,Ls⟩ fun r s=>r = .tup []∧s=⟨B,rows',Ls⟩:=by
 rw [ZgO] at hO ⊢
 rw [←Ya]
 exact ZdB w0 Tryz.laysSortS (AZ Tryz.func159 rfl (by decide)) hO hn
theorem YK (hO:Owns Rw rows l ho ((o,1,xs.flatMap fun x=>(CB x).cells)::v)) (hn:xs.length<4611686018427387904) :
  ∃ rows',Owns Rw rows' l ho ((o,1,(Js xs).flatMap fun x=>(CB x).cells)::v)∧∀ (B:Ao) (Ls:As),ACalls Tryz.prog w0 160 [Pn o xs.length] ⟨B,rows,Ls⟩ fun r s=>r=Pn o (Js xs).length∧s=⟨B,rows',Ls⟩:=by
 rw [ZgO] at hO ⊢
 exact Zcm w0 Tryz.laysComp (AZ Tryz.func160 rfl (by decide)) hO hn
end
def Ij (g:Int) (b:Bool):(Int × Int) :=
 if b then
  (3,3)
 else
  if decide (g=25) then
   (2,256)
  else
   (2,2)
def CC (g:Int) (b:Bool):(Int × Int) :=
 if b then
  (1,1)
 else
  if decide (g=21) then
   Ij g true
  else
   Ij g (decide (g=24))
def FA (b:Int) (g:Bool):(Int × Int) :=
 if g then
  (0,0)
 else
  if decide (b=3) then
   CC b true
  else
   if decide (b=16) then
    CC b true
   else
    if decide (b=18) then
     CC b true
    else
     if decide (b=19) then
      CC b true
     else
      if decide (b=20) then
       CC b true
      else
       if decide (b=27) then
        CC b true
       else
        CC b (decide (b=28))
def E3 (b:Int):(Int × Int) :=
 if decide (b=1) then
  FA b true
 else
  if decide (b=2) then
   FA b true
  else
   if decide (b=22) then
    FA b true
   else
    FA b (decide (b=26))
theorem U8 (w0:World) (B:Ao) (Rw:Av) (L:As) (a0:Int) (r:Int × Int) (h:E3 a0=r) :
  ACalls Tryz.prog w0 300 [Am a0] ⟨B,Rw,L⟩ fun x st=>x = .tup [Am r.1,Am r.2]∧st=⟨B,Rw,L⟩:=by
 rw [E3] at h
 refine hd [.tmp 2,.tmp 3] Tryz.func300 Tryz.ntmps300 fun M0 W0 k g i b p j hs=>?_
 simp only [AA]
 refine rg [0] hs ?_
 apply An;intro K2 o
 refine rg [4] hs ?_
 apply Aq
 refine AB (fun e st=>∃ (f:Bool),Ck e st B Rw L [(4,true,Am a0),(5,true,.val (.bool f))] [] [] (FA a0 f=r)) ?_ ?_
 ·intro K6 n
  exact go (tg (a:=([4,5],([4,5],()),[4,5],([4,5],()),[4,5],([4,5],()),[4,5],()))) h hs k g i b j trivial (q1 n)
 ·clear h;rintro e st ⟨f,Xk5,Rk5,rfl,rfl,j,h⟩
  rw [FA] at h
  refine td k g i b j ?_
  refine BQ h hs ?_ ?_<;>intro hs h
  ·refine rg [2,3] hs ?_
   exact rT h hs b j
  refine AB (fun e st=>∃ (c:Bool),Ck e st B Rw L [(4,true,Am a0),(10,true,.val (.bool c))] [] [] (CC a0 c=r)) ?_ ?_
  ·intro K17 m
   exact go (tg (a:=([4,10],([4,10],()),[4,10],([4,10],()),[4,10],([4,10],()),[4,10],([4,10],()),[4,10],([4,10],()),[4,10],([4,10],()),[4,10],()))) h hs k g i b j trivial (q1 m)
  ·clear h;rintro e st ⟨c,Xk16,Rk16,rfl,rfl,j,h⟩
   rw [CC] at h
   refine td k g i b j ?_
   refine BQ h hs ?_ ?_<;>intro hs h
   ·refine rg [2,3] hs ?_
    exact rT h hs b j
   refine AB (fun e st=>∃ (d:Bool),Ck e st B Rw L [(4,true,Am a0),(18,true,.val (.bool d))] [] [] (Ij a0 d=r)) ?_ ?_
   ·intro K34 l
    exact go (tg (a:=([4,18],([4,18],()),[4,18],()))) h hs k g i b j trivial (q1 l)
   ·clear h;rintro e st ⟨d,Xk33,Rk33,rfl,rfl,j,h⟩
    rw [Ij] at h
    exact go (tg (a:=(([2,3],()),[21],([2,3],()),[],[2,3],()))) h hs k g i b j trivial (q1 o)
theorem TU (w0:World) (B:Ao) (Rw:Av) (L:As) (a0:Int) :
  ACalls Tryz.prog w0 300 [Am a0] ⟨B,Rw,L⟩ fun x st=>x = .tup [Am ((E3 a0).1),Am ((E3 a0).2)]∧st=⟨B,Rw,L⟩:=U8 w0 B Rw L a0 _ rfl
def Dw (b:Part):Bool :=
 decide (b.kind=3)
theorem Pq (w0:World) (B:Ao) (Rw:Av) (L:As) (a0:Part) (r:Bool) (h:Dw a0=r) :
  ACalls Tryz.prog w0 303 [.agg (Am a0.kind::(Am a0.index::([.val (.string a0.name)])))] ⟨B,Rw,L⟩ fun x st=>x = .val (.bool r)∧st=⟨B,Rw,L⟩:=by
 rw [Dw] at h
 refine hd [.tmp 2] Tryz.func303 Tryz.ntmps303 fun M0 W0 e b c a f d hs=>?_
 simp only [AA]
 refine rg [1] hs ?_
 refine rg [2] hs ?_
 exact rT h hs a d
theorem OA (w0:World) (B:Ao) (Rw:Av) (L:As) (a0:Part) :
  ACalls Tryz.prog w0 303 [.agg (Am a0.kind::(Am a0.index::([.val (.string a0.name)])))] ⟨B,Rw,L⟩ fun x st=>x = .val (.bool (Dw a0))∧st=⟨B,Rw,L⟩:=Pq w0 B Rw L a0 _ rfl
def I9 (b:Int):Bool :=
 (decide (1≤b))&&(decide (b≤7))
theorem Tq (w0:World) (B:Ao) (Rw:Av) (L:As) (a0:Int) (r:Bool) (h:I9 a0=r) :
  ACalls Tryz.prog w0 338 [Am a0] ⟨B,Rw,L⟩ fun x st=>x = .val (.bool r)∧st=⟨B,Rw,L⟩:=by
 rw [I9] at h
 refine hd [.tmp 2] Tryz.func338 Tryz.ntmps338 fun M0 W0 e b c a f d hs=>?_
 simp only [AA]
 refine rg [0] hs ?_
 refine rg [2] hs ?_
 exact rT h hs a d
theorem RL (w0:World) (B:Ao) (Rw:Av) (L:As) (a0:Int) :
  ACalls Tryz.prog w0 338 [Am a0] ⟨B,Rw,L⟩ fun x st=>x = .val (.bool (I9 a0))∧st=⟨B,Rw,L⟩:=Tq w0 B Rw L a0 _ rfl
def F3 (n:Nat) (h:List Vl):Option Int :=
 if decide ((h.length:Int)=0) then
  some (4)
 else
  if decide ((h.length:Int)=1) then
   (Cb h 0).bind fun b =>
   (GY n b).bind fun g =>
   if !(decide (g=0)) then
    some (g)
   else
    if !(I9 b.kind) then
     some (18)
    else
     some (0)
  else
   some (3)
theorem O3 (w0:World) (hT:Lib.Utf8Tabs 2 3 w0) (n:Nat) (B:Ao) (Rw:Av) (L:As) (a0:List Vl) (r:Int) (h:F3 n a0=some r) :
  ACalls Tryz.prog w0 302 [.list (a0.map Di) .none] ⟨B,Rw,L⟩ fun x st=>x=Am r∧st=⟨B,Rw,L⟩:=by
 rw [F3] at h
 refine hd [.tmp 2] Tryz.func302 Tryz.ntmps302 fun M0 W0 f c d b g e hs=>?_
 simp only [AA]
 exact go (tg (a:=([0],[0,5],[0,5,6],([2],()),[0,8],([0,3],[0,3,15],([2],()),[0],[22],([2],()),[],[2],()),[],[2],()))) h hs f c d b e (q2 (O1 w0 hT n) (RL w0)) trivial
def FH (b:Int):Bool :=
 ((decide (b=2))||(decide (b=22)))||(decide (b=26))
theorem Ux (w0:World) (B:Ao) (Rw:Av) (L:As) (a0:Int) (r:Bool) (h:FH a0=r) :
  ACalls Tryz.prog w0 180 [Am a0] ⟨B,Rw,L⟩ fun x st=>x = .val (.bool r)∧st=⟨B,Rw,L⟩:=by
 rw [FH] at h
 refine hd [.tmp 2] Tryz.func180 Tryz.ntmps180 fun M0 W0 e b c a f d hs=>?_
 simp only [AA]
 refine rg [0] hs ?_
 refine rg [2] hs ?_
 exact rT h hs a d
theorem JA (w0:World) (B:Ao) (Rw:Av) (L:As) (a0:Int) :
  ACalls Tryz.prog w0 180 [Am a0] ⟨B,Rw,L⟩ fun x st=>x = .val (.bool (FH a0))∧st=⟨B,Rw,L⟩:=Ux w0 B Rw L a0 _ rfl
def G5 (b:Int):Bool :=
 (decide (b=15))||(decide (b=26))
theorem UH (w0:World) (B:Ao) (Rw:Av) (L:As) (a0:Int) (r:Bool) (h:G5 a0=r) :
  ACalls Tryz.prog w0 301 [Am a0] ⟨B,Rw,L⟩ fun x st=>x = .val (.bool r)∧st=⟨B,Rw,L⟩:=by
 rw [G5] at h
 refine hd [.tmp 2] Tryz.func301 Tryz.ntmps301 fun M0 W0 e b c a f d hs=>?_
 simp only [AA]
 refine rg [0] hs ?_
 refine rg [2] hs ?_
 exact rT h hs a d
theorem M6 (w0:World) (B:Ao) (Rw:Av) (L:As) (a0:Int) :
  ACalls Tryz.prog w0 301 [Am a0] ⟨B,Rw,L⟩ fun x st=>x = .val (.bool (G5 a0))∧st=⟨B,Rw,L⟩:=UH w0 B Rw L a0 _ rfl
def DO (n:Nat) (b:Ex):Option Int :=
 if (G5 b.op)&&((decide (b.int<0))||(decide (12<b.int))) then
  some (2)
 else
  some (0)
def Fq (n:Nat) (b:Ex):Option Int :=
 if (decide (b.op<1))||(decide (28<b.op)) then
  some (11)
 else
  if (((!(decide (b.op=1)))&&(decide (0<(b.value.length:Int))))||((!(FH b.op))&&(!(Gn b.text (⟨#[]⟩:ByteArray)))))||((!(G5 b.op))&&(!(decide (b.int=0)))) then
   some (3)
  else
   if (decide (((E3 b.op).2)=0))&&(decide (0<(b.args.length:Int))) then
    some (3)
   else
    if decide ((b.args.length:Int)<((E3 b.op).1)) then
     some (4)
    else
     if (decide (((E3 b.op).2)<(b.args.length:Int)))&&(!(decide (b.op=25))) then
      some (3)
     else
      if decide (b.op=1) then
       (F3 n b.value).bind fun h =>
       some (h)
      else
       if FH b.op then
        (Do n b.text).bind fun g =>
        if !(decide (g.2=0)) then
         some (g.2)
        else
         (A3 n g.1 (fun (y:Part)=>some (Dw y))).bind fun q =>
         if q != (decide (b.op=26)) then
          some (22)
         else
          DO n b 
       else
        DO n b 
theorem QK (w0:World) (hE:Jl w0) (hM:Jh w0) (hP:Pow10 w0) (hT:Lib.Utf8Tabs 2 3 w0) (n:Nat) (B:Ao) (Rw:Av) (L:As) (a0:Ex) (r:Int) (h:Fq n a0=some r) :
  ACalls Tryz.prog w0 242 [.agg (a0.cs)] ⟨B,Rw,L⟩ fun x st=>x=Am r∧st=⟨B,Rw,L⟩:=by
 rw [Fq] at h
 refine hd [.tmp 2] Tryz.func242 Tryz.ntmps242 fun M0 W0 s k j b y c hs=>?_
 simp only [AA]
 refine rg [1] hs ?_
 apply An;intro K2 m
 refine rg [1,15] hs ?_
 refine BQ h hs ?_ ?_<;>intro hs h
 ·refine rg [2] hs ?_
  exact rt h hs b c
 refine sk [1] hs m ?_
 clear m
 refine rc 2 [1,3,4] hs ?_;intro K6 q
 refine Aw _ (TU w0 _ _ _ a0.op) (hv hs) ?_
 refine ne hs q ?_
 clear q
 refine AB (fun e st=>Ck e st B Rw L [(1,true,.box B.length 0)] [a0.cs] [] (DO n a0  = some r)) ?_ ?_
 ·intro K9 p
  apply Aq
  refine rc 3 [1,3,4,22] hs ?_;intro K10 f
  refine OP _ (fun _=>JA w0 _ _ _ a0.op) (hv hs) ?_
  refine nc hs ?_
  refine OP _ (fun _=>M6 w0 _ _ _ a0.op) (hv hs) ?_
  refine ne hs f ?_
  clear f
  refine BQ h hs ?_ ?_<;>intro hs h
  ·refine rg [2] hs ?_
   exact rt h hs b c
  refine rg [1,3,4,54] hs ?_
  refine BQ h hs ?_ ?_<;>intro hs h
  ·refine rg [2] hs ?_
   exact rt h hs b c
  refine rg [1,4,63] hs ?_
  refine BQ h hs ?_ ?_<;>intro hs h
  ·refine rg [2] hs ?_
   exact rt h hs b c
  refine rg [1,69] hs ?_
  refine BQ h hs ?_ ?_<;>intro hs h
  ·refine rg [2] hs ?_
   exact rt h hs b c
  refine rg [1,80] hs ?_
  refine BQ h hs ?_ ?_<;>intro hs h
  ·exact go (tg (a:=([2],()))) h hs s k j b c (q1 (O3 w0 hT n)) trivial
  refine rc 2 [1,87] hs ?_;intro K26 d
  refine Aw _ (JA w0 _ _ _ a0.op) (hv hs) ?_
  refine ne hs d ?_
  clear d
  refine BQ h hs ?_ ?_<;>intro hs h
  ·obtain ⟨t,l,h⟩:=bind_some h
   refine rc 2 [1,5,6] hs ?_;intro K28 i
   refine Aw _ (Gx w0 hE hM hP n _ _ _ a0.text _ l) (hv hs) ?_
   refine ne hs i ?_
   clear i
   apply An;intro K30 g
   refine rg [1,5,6,98] hs ?_
   refine BQ h hs ?_ ?_<;>intro hs h
   ·refine rg [2] hs ?_
    exact rt h hs b c
   refine sk [1,5] hs g ?_
   clear g
   obtain ⟨u,hy35,h⟩:=bind_some h
   refine rc 2 [1,7] hs ?_;intro K34 o
   refine Aw _ (Dv w0 n _ _ _ t.1 303 [] (fun (x0:Part)=>some (Dw x0)) (fun x0 r hx z rows' v w=>by cases hx;exact OA w0 _ _ _ x0) _ hy35) (hv hs) ?_
   exact go (tg (a:=([1,106],([2],()),[1],()))) h hs s k j b c trivial (q2 o p)
  refine sk [1] hs p ?_
  exact ⟨([]),Rw,ef hs,ef hs,c,h⟩
 ·clear h;rintro e st ⟨Xk8,Rk8,rfl,rfl,c,h⟩
  rw [DO] at h
  exact go (tg (a:=([119],([2],()),[],[2],()))) h hs s k j b c (q1 (M6 w0)) trivial
def IB (rec:Ex→Int→Int→Option (Int × Int)) (n:Nat)  (pla2_k19:Int):Option (Int × Int) :=
 some ((0,pla2_k19))
def CQ (rec:Ex→Int→Int→Option (Int × Int)) (n:Nat) (y:Ex) (q:Int):Nat→Int→Int→Option (Int × Int)
 | 0,_,_=>none
 | m+1,b,pla2_l22 =>
  if decide (b<(y.args.length:Int)) then
   (Cb y.args b).bind fun h =>
   if A6 (q+1) then
    (rec h (q+1) pla2_l22).bind fun g =>
    if !(decide (g.1=0)) then
     some ((g.1,g.2))
    else
     if A6 (b+1) then
      (CQ rec n y q m) (b+1) g.2
     else none
   else none
  else
   IB rec n pla2_l22
def Ir (rec:Ex→Int→Int→Option (Int × Int)) (n:Nat) (h:Ex) (q:Int) (b:Int):Option (Int × Int) :=
 if decide (b=256) then
  some ((9,b))
 else
  if A6 (b+1) then
   if decide (8<q) then
    some ((23,b+1))
   else
    (Fq n h).bind fun g =>
    if !(decide (g=0)) then
     some ((g,b+1))
    else
     CQ rec n h q n 0 (b+1)
  else none
def DT:Nat→Ex→Int→Int→Option (Int × Int)
 | 0,_,_,_=>none
 | n+1,g,h,b=>Ir (DT n) n g h b
def KI (w0:World) (F:Ex→Int→Int→Option (Int × Int)):Prop:=∀ (B:Ao) (Rw:Av) (L:As) (g:Ex) (h:Int) (la2:Nat) (b:Int) (hla2:B[la2]? = some ([Am b])) (la3:Nat) (hla3:B[la3]? = some [.clo 241 [.box la2 0,.box la3 0]]) (r:Int × Int),F g h b=some r→ACalls Tryz.prog w0 241 [.agg (g.cs),Am h,.box la2 0,.box la3 0] ⟨B,Rw,L⟩ fun x st=>x=Am r.1∧st=⟨(B.set la2 [Am r.2]),Rw,L⟩
theorem Qg (w0:World) (hE:Jl w0) (hM:Jh w0) (hP:Pow10 w0) (hT:Lib.Utf8Tabs 2 3 w0) (rec:Ex→Int→Int→Option (Int × Int)) (ih:KI w0 rec) (n:Nat):KI w0 (Ir rec n):=by
 intro B Rw L a0 a1 u a2 t y j r h
 rw [Ir] at h
 refine hd [.tmp 6] Tryz.func241 Tryz.ntmps241 fun M0 W0 D o l c hu p hs=>?_
 simp only [AA]
 have Z:=(Ak.1 t).1
 have Y:=(Ak.1 j).1
 have i:u≠y:=fun q=>by have k:=t;rw [q,j] at k;cases k
 have hs:=Ae (Ar t) hs
 have hs:=Ae (Ar j) hs
 have hs:=Ae (Bd j i) hs
 refine rg [1,2,3,4] hs ?_
 apply An;intro K2 H
 refine rg [1,2,3,4,12] hs ?_
 refine BQ h hs ?_ ?_<;>intro hs h
 ·have ad:=hs.1
  refine rg [6] hs ?_
  exact rt h hs c p
 have ad:=hs.1
 refine sk [1,2,3,4] hs H ?_
 clear H
 obtain ⟨ai,h⟩:=Au h
 refine rg [1,3,4] hs ?_
 apply An;intro K8 J
 refine rg [1,3,4,16] hs ?_
 refine BQ h hs ?_ ?_<;>intro hs h
 ·have K:=hs.1
  exact go (tg (a:=([6],()))) h hs D o l c p trivial trivial
 have K:=hs.1
 refine sk [1,3,4] hs J ?_
 clear J
 apply An;intro K12 x
 obtain ⟨ah,E,h⟩:=bind_some h
 refine rc 2 [1,3,4,7] hs ?_;intro K13 v
 refine Aw _ (QK w0 hE hM hP hT n _ _ _ a0 _ E) (hv hs) ?_
 refine ne hs v ?_
 clear v
 refine rg [1,3,4,7,20] hs ?_
 refine BQ h hs ?_ ?_<;>intro hs h
 ·have O:=hs.1
  exact go (tg (a:=([6],()))) h hs D o l c p trivial trivial
 have O:=hs.1
 refine sk [1,3,4] hs x ?_
 clear x
 refine AB (fun e st=>∃ (d:Int) (Xk19:Ao) (Rk19:Av),e=[]∧st=⟨(B.set u ([Am d]))++([a0.cs]++Xk19),Rk19,L⟩∧Owns Rw Rk19 []∧IB rec n d=some r) ?_ ?_
 ·intro K20 V
  refine rg [1,3,23,24,25] hs ?_
  apply Aq
  refine AC (fun m e st=>∃ (g:Int) (b:Int) (Xl22:Ao) (Rl22:Av),e=[(1,true,Am a1),(3,true,.box y 0),(23,true,.list (a0.args.map O5) .none),(24,true,Am (a0.args.length:Int)),(25,true,Am g)]∧st=⟨(B.set u ([Am b]))++([a0.cs]++Xl22),Rl22,L⟩∧Owns Rw Rl22 []∧CQ rec n a0 a1 m g b=some r) n ⟨0,(a2+1),([]),Rw,ef hs,ef hs,p,h⟩ ?_
  rintro ml22 e st ⟨g,b,Xl22,Rl22,rfl,rfl,p,h⟩ Ul22 Vl22
  cases ml22 with
  | zero=>cases h
  | succ ml22 =>
  rw [CQ] at h
  refine A9 D o l Y6 (CO c ev) p ow ow ?_
  refine rg [1,3,23,24,25,26] hs ?_
  apply An;intro K24 w
  refine BQ h hs ?_ ?_<;>intro hs h
  rotate_left
  ·have Q:=hs.1
   refine sx [] hs V ?_
   exact ⟨b,([]),Rl22,ef hs,ef hs,p,h⟩
  have Q:=hs.1
  refine sk [1,3,23,24,25] hs w ?_
  clear w
  apply An;intro K26 F
  apply Aq
  obtain ⟨ae,N,h⟩:=bind_some h
  obtain ⟨ab,aa,z⟩:=Bi N
  have C:=Bj (f:=O5) z
  have hs:=Ae C hs
  refine rg [1,3,9,23,24,25] hs ?_
  obtain ⟨af,h⟩:=Au h
  obtain ⟨ag,G,h⟩:=bind_some h
  refine rc 2 [1,3,10,23,24,25] hs ?_;intro K29 U
  refine ET _ (ih _ _ _ ae (a1+1) u b (ef hs) y (ef hs) _ G) (hv hs) ?_;rintro _ _ ⟨rfl,rfl⟩
  exact go (tg (a:=([1,3,10,23,24,25,35],([6],()),[1,3,23,24,25],[1,3,23,24,25],()))) h hs D o l c p trivial (q3 U F (fun e s=>Vl22 ml22 e s (Nat.lt_succ_self _)))
 ·clear h;rintro e st ⟨d,Xk19,Rk19,rfl,rfl,p,h⟩
  rw [IB] at h
  refine A9 D o l Y6 (CO c ev) p ow ow ?_
  exact go (tg (a:=([6],()))) h hs D o l c p trivial trivial
theorem Na (w0:World) (hE:Jl w0) (hM:Jh w0) (hP:Pow10 w0) (hT:Lib.Utf8Tabs 2 3 w0):∀ n:Nat,KI w0 (DT n)
 | 0=>fun _ _ _ _ _ _ _ _ _ _ _ h=>(nomatch h)
 | n+1=>Qg w0 hE hM hP hT (DT n) (Na w0 hE hM hP hT n) n
def GK (n:Nat) (g:Ex):Option Int :=
 (DT n g 1 0).bind fun b =>
 some (b.1)
theorem OC (w0:World) (hE:Jl w0) (hM:Jh w0) (hP:Pow10 w0) (hT:Lib.Utf8Tabs 2 3 w0) (n:Nat) (B:Ao) (Rw:Av) (L:As) (a0:Ex) (r:Int) (h:GK n a0=some r) :
  ACalls Tryz.prog w0 161 [.agg (a0.cs)] ⟨B,Rw,L⟩ fun x st=>x=Am r∧st=⟨B,Rw,L⟩:=by
 rw [GK] at h
 refine hd [.tmp 2] Tryz.func161 Tryz.ntmps161 fun M0 W0 i d e a j f hs=>?_
 simp only [AA]
 refine rg [1] hs ?_
 refine rg [1,3] hs ?_
 refine rg [1,3,4] hs ?_
 refine rg [1,4] hs ?_
 obtain ⟨g,c,h⟩:=bind_some h
 refine rc 2 [2] hs ?_;intro K5 b
 refine ET _ (Na w0 hE hM hP hT n _ _ _ a0 1 (B.length+1) 0 ev (B.length+2) ev _ c) (hv hs) ?_;rintro _ _ ⟨rfl,rfl⟩
 refine ne hs b ?_
 clear b
 exact rt h hs a f
def CW (rec:Ex→(List ByteArray)→Option ((List ByteArray))) (n:Nat) (q:Ex):Nat→Int→(List ByteArray)→Option ((List ByteArray))
 | 0,_,_=>none
 | m+1,b,pla1_l12 =>
  if decide (b<(q.args.length:Int)) then
   (Cb q.args b).bind fun g =>
   (rec g pla1_l12).bind fun h =>
   if A6 (b+1) then
    (CW rec n q m) (b+1) h
   else none
  else
   some (pla1_l12)
def Ee (rec:Ex→(List ByteArray)→Option ((List ByteArray))) (n:Nat) (b:Ex) (pla1_k3:List ByteArray):Option ((List ByteArray)) :=
 CW rec n b n 0 pla1_k3
def Ik (rec:Ex→(List ByteArray)→Option ((List ByteArray))) (n:Nat) (b:Ex) (g:List ByteArray):Option ((List ByteArray)) :=
 if FH b.op then
  if (g.length+1)*16≤140737488355328∧g.length+1≤4611686018427387904 then
   Ee rec n b (g++[b.text])
  else none
 else
  Ee rec n b g
def C6:Nat→Ex→(List ByteArray)→Option ((List ByteArray))
 | 0,_,_=>none
 | n+1,b,g=>Ik (C6 n) n b g
def KF (w0:World) (F:Ex→(List ByteArray)→Option ((List ByteArray))):Prop:=∀ (B:Ao) (Rw:Av) (L:As) (g:Ex) (la1:Nat) (b:List ByteArray) (oa1:VO) (hla1:B[la1]? = some [Pn oa1 b.length]) (hGa1:Owns Rw Rw [] (hOf oa1) [(oa1,1,b.flatMap fun x=>(CB x).cells)]) (la2:Nat) (hla2:B[la2]? = some [.clo 179 [.box la1 0,.box la2 0]]) (r:(List ByteArray)),F g b=some r→ACalls Tryz.prog w0 179 [.agg (g.cs),.box la1 0,.box la2 0] ⟨B,Rw,L⟩ fun x st=>x = .tup []∧∃ (R1:Av) (o1:VO),st=⟨(B.set la1 [Pn o1 r.length]),R1,L⟩∧Owns Rw R1 [] (hOf oa1) [(o1,1,r.flatMap fun x=>(CB x).cells)]
theorem PU (w0:World) (rec:Ex→(List ByteArray)→Option ((List ByteArray))) (ih:KF w0 rec) (n:Nat):KF w0 (Ik rec n):=by
 intro B Rw L a0 w a1 oa1 p Z z j r h
 rw [Ik] at h
 refine ACalls.finG (FN (rs:=[]) Tryz.func179 rfl rfl Tryz.ntmps179 (AZ Tryz.func179 rfl (by decide)) (Nat.le_of_ble_eq_true rfl) ?_)
 intro M0 W0 hN G E o hu
 dsimp only at hN G E o hu
 simp only [AA]
 have l:=Z
 have hs:=ZcH
 have aa:=(Ak.1 p).1
 have ab:=(Ak.1 j).1
 have g:w≠z:=fun q=>by have k:=p;rw [q,j] at k;cases oa1<;>cases k
 have hs:=Ae (Ar p) hs
 have hs:=Ae (Ar j) hs
 have hs:=Ae (Bd j g) hs
 refine rg [1,2,3] hs ?_
 refine AB (fun e st=>∃ (c:List ByteArray) (d:VO) (Xk3:Ao) (Rk3:Av),e=[(2,true,.box z 0),(3,true,.box B.length 0)]∧st=⟨(B.set w ([Pn d c.length]))++([a0.cs]++Xk3),Rk3,L⟩∧Owns Rw Rk3 [] (hOf oa1) [(d,1,c.flatMap fun x=>(CB x).cells)]∧Ee rec n a0 c=some r) ?_ ?_
 ·intro K4 U
  refine rc 2 [1,2,3,8] hs ?_;intro K5 N
  refine Aw _ (JA w0 _ _ _ a0.op) (hv hs) ?_
  refine ne hs N ?_
  clear N
  refine BQ h hs ?_ ?_<;>intro hs h
  ·obtain ⟨Y,h⟩:=Au h
   obtain ⟨o8,H,l,u⟩:=l.appendV (P:=Tryz.prog) (n:=a1.length) (m:=1) OL (by rw [Me];rfl) (by decide) ((KN (f:=CB) (sz:=1) (fun _=>by simp +decide only [go_sem]) _)) Y.1 Y.2 [CB a0.text] rfl ((a1++[a0.text]).flatMap fun x=>(CB x).cells) (by simp only [List.flatMap_append,List.flatMap_cons,List.flatMap_nil,List.append_nil,List.nil_append,Zcw])
   simp only [List.mem_singleton,forall_eq,GE,GA,Gj,EQ,EO,F7,Dp,Ek,Ge,CP,CJ,EF,Ez,Et,Gi,Ew,F5] at u
   have hs:=Ae u hs
   refine rl [2,3] hs U ?_
   exact ⟨(a1++[a0.text]),o8,([]),H,ef hs,ef hs,Owns.eqV (l) fn_,h⟩
  refine sk [2,3] hs U ?_
  exact ⟨a1,oa1,([]),Rw,ef hs,ef hs,Owns.eqV (l) fn_,h⟩
 ·clear h;rintro e st ⟨c,d,Xk3,Rk3,rfl,rfl,l,h⟩
  rw [Ee] at h
  have v:=l.underV
  simp only [List.mem_cons,List.not_mem_nil,or_false,forall_eq_or_imp,forall_eq] at v
  refine Oo hN G E Y6 (CO (MO o l.len) ow) l ow ow ?_ (vu @Ti)
  refine rg [2,15,16,17] hs ?_
  apply Aq
  refine AC (fun m e st=>∃ (i:Int) (a:List ByteArray) (b:VO) (Xl12:Ao) (Rl12:Av),e=[(2,true,.box z 0),(15,true,.list (a0.args.map O5) .none),(16,true,Am (a0.args.length:Int)),(17,true,Am i)]∧st=⟨(B.set w ([Pn b a.length]))++([a0.cs]++Xl12),Rl12,L⟩∧Owns Rw Rl12 [] (hOf oa1) [(b,1,a.flatMap fun x=>(CB x).cells)]∧CW rec n a0 m i a=some r) n ⟨0,c,d,([]),Rk3,ef hs,ef hs,Owns.eqV (l) fn_,h⟩ ?_
  rintro ml12 e st ⟨i,a,b,Xl12,Rl12,rfl,rfl,l,h⟩ Ul12 Vl12
  cases ml12 with
  | zero=>cases h
  | succ ml12 =>
  rw [CW] at h
  have v:=l.underV
  simp only [List.mem_cons,List.not_mem_nil,or_false,forall_eq_or_imp,forall_eq] at v
  refine Oo hN G E Y6 (CO (MO o l.len) ow) l ow ow ?_ (vu @Ti)
  refine rg [2,15,16,17,18] hs ?_
  apply An;intro K14 C
  refine BQ h hs ?_ ?_<;>intro hs h
  rotate_left
  ·have t:=hs.1
   refine P4 (ED [] _) ?_ (FM _ _)
   apply Ks;simp +decide only [go_sem,Nat.reduceAdd]
   (repeat' with_reducible apply Ae)<;>first | exact cl | skip
   have hgt:=Option.some.inj h;subst hgt
   have v:=l.underV
   simp only [List.mem_cons,List.not_mem_nil,or_false,forall_eq_or_imp,forall_eq] at v
   refine Za l (CO (MO o l.len) ow) Y6 ev ⟨?_,_,_,?_,l.sub (List.nil_sublist _)⟩ (vu @Ti)
   all_goals first | rfl | (simp +decide only [go_sem,Nat.reduceAdd,Ar p,Ar j,Bd j g,t];done) | (simp +decide only [go_sem,Nat.reduceAdd,Vl.cs,Ty.cs,Ar p,Ar j,Bd j g,t];done)
  have t:=hs.1
  refine sk [2,15,16,17] hs C ?_
  clear C
  apply An;intro K16 D
  apply Aq
  obtain ⟨Q,O,h⟩:=bind_some h
  obtain ⟨ae,af,J⟩:=Bi O
  have F:=Bj (f:=O5) J
  have hs:=Ae F hs
  refine rg [2,5,15,16,17] hs ?_
  obtain ⟨ad,V,h⟩:=bind_some h
  refine rk 2 [2,15,16,17] hs ?_
  refine ET _ (ih _ _ _ Q w a b (ef hs) l.enterV z (ef hs) _ V) (hv hs) ?_;rintro _ _ ⟨rfl,Rg20,K,rfl,y⟩
  have l:=l.callG y
  refine ne hs D ?_
  clear D
  obtain ⟨ag,h⟩:=Au h
  refine rl [2,15,16,17] hs (fun e s=>Vl12 ml12 e s (Nat.lt_succ_self _)) ?_
  exact ⟨(i+1),ad,K,([Q.cs]),Rg20,ef hs,ef hs,Owns.eqV (l) fn_,h⟩
theorem Nk (w0:World):∀ n:Nat,KF w0 (C6 n)
 | 0=>fun _ _ _ _ _ _ _ _ _ _ _ _ h=>(nomatch h)
 | n+1=>PU w0 (C6 n) (Nk w0 n) n
def Ip (n:Nat) (g:Ex):Option ((List ByteArray)) :=
 (GK n g).bind fun h =>
 if !(decide (h=0)) then
  some ([])
 else
  (C6 n g ([])).bind fun b =>
  if b.length<4611686018427387904 then
   if (Ji b).length<4611686018427387904 then
    some (Js (Ji b))
   else none
  else none
theorem UQ (w0:World) (hE:Jl w0) (hM:Jh w0) (hP:Pow10 w0) (hT:Lib.Utf8Tabs 2 3 w0) (n:Nat) (B:Ao) (Rw:Av) (L:As) (a0:Ex) (r:(List ByteArray)) (h:Ip n a0=some r) :
  ACalls Tryz.prog w0 99 [.agg (a0.cs)] ⟨B,Rw,L⟩ fun x st=>x = .list (r.map CB) .none∧st=⟨B,Rw,L⟩:=by
 rw [Ip] at h
 refine hd [.tmp 2] Tryz.func99 Tryz.ntmps99 fun M0 W0 D C z b E a hs=>?_
 simp only [AA]
 refine rg [1] hs ?_
 apply An;intro K2 m
 obtain ⟨F,v,h⟩:=bind_some h
 refine rc 2 [1,7] hs ?_;intro K3 p
 refine Aw _ (OC w0 hE hM hP hT n _ _ _ a0 _ v) (hv hs) ?_
 refine ne hs p ?_
 clear p
 refine BQ h hs ?_ ?_<;>intro hs h
 ·refine rg [2] hs ?_
  exact rt h hs b a
 refine sk [1] hs m ?_
 clear m
 refine rg [1,3] hs ?_
 refine rg [1,3,4] hs ?_
 refine rg [1,3,4] hs ?_
 apply An;intro K10 e
 refine Qa (B.length+1) 0 (by simp only [FX,Ey,Em,Dj];rfl) rfl ?_;simp +decide only [go_sem,Nat.reduceAdd,List.set_cons_zero,List.set_cons_succ]
 have a:=a.nilV 1
 obtain ⟨w,o,h⟩:=bind_some h
 refine rk 2 [3] hs ?_
 refine ET _ (Nk w0 n _ _ _ a0 (B.length+1) ([]) .nil (ef hs) a.enterV (B.length+2) (ef hs) _ o) (hv hs) ?_;rintro _ _ ⟨rfl,Rg13,y,rfl,c⟩
 have a:=a.callG c
 refine ne hs e ?_
 clear e
 apply An;intro K15 d
 obtain ⟨q,h⟩:=Au h
 obtain ⟨t,a,i⟩:=XY w0 a q
 have l:=Fg w
 refine P8 0 (by decide) ?_
 have hs:=Ae l hs
 refine rk 2 [3] hs ?_
 refine Oh [false] _ (i _ _) (hv hs) ?_;rintro _ _ ⟨rfl,rfl⟩
 refine ne hs d ?_
 clear d
 apply An;intro K20 g
 obtain ⟨k,h⟩:=Au h
 obtain ⟨s,a,j⟩:=YK w0 a k
 refine P8 0 (by decide) ?_
 refine rk 2 [2] hs ?_
 refine Oh [false] _ (j _ _) (hv hs) ?_;rintro _ _ ⟨rfl,rfl⟩
 refine ne hs g ?_
 clear g
 refine ZaO 2 (by first | rfl | (simp only [Xn,List.length_set];rfl)) a false (.inr rfl) (by decide) ((KN (f:=CB) (sz:=1) (fun _=>by simp +decide only [go_sem]) _)) (ZaS (f:=CB) (fun _=>rfl) _) (fun u a=>?_)
 simp +decide only [go_sem,Nat.reduceAdd,List.set_cons_zero,List.set_cons_succ]
 exact rt h hs b a
def E6 (n:Nat)  (b:List ByteArray):Option ((List ByteArray)) :=
 if b.length<4611686018427387904 then
  if (Ji b).length<4611686018427387904 then
   some (Js (Ji b))
  else none
 else none
def B2 (n:Nat) (y:List (ByteArray × Ex)):Nat→(List ByteArray)→Int→Option ((List ByteArray))
 | 0,_,_=>none
 | m+1,b,g =>
  if decide (g<(y.length:Int)) then
   (Cb y g).bind fun q =>
   (Ip n q.2).bind fun h =>
   if (b.length+h.length)*16≤140737488355328∧b.length+h.length≤4611686018427387904 then
    if A6 (g+1) then
     (B2 n y m) (b++h) (g+1)
    else none
   else none
  else
   E6 n b
def Dn (n:Nat) (b:List (ByteArray × Ex)):Option ((List ByteArray)) :=
 B2 n b n ([]) 0
theorem KH (w0:World) (hE:Jl w0) (hM:Jh w0) (hP:Pow10 w0) (hT:Lib.Utf8Tabs 2 3 w0) (n:Nat) (B:Ao) (Rw:Av) (L:As) (a0:List (ByteArray × Ex)) (r:(List ByteArray)) (h:Dn n a0=some r) :
  ACalls Tryz.prog w0 69 [.agg ([.list (a0.map A5) .none])] ⟨B,Rw,L⟩ fun x st=>x = .list (r.map CB) .none∧st=⟨B,Rw,L⟩:=by
 rw [Dn] at h
 refine hd [.tmp 2] Tryz.func69 Tryz.ntmps69 fun M0 W0 hN K F j hu d hs=>?_
 simp only [AA]
 refine rg [1] hs ?_
 refine rg [1,3] hs ?_
 refine AB (fun e st=>∃ (c:List ByteArray) (i:VO) (Xk4:Ao) (Rk4:Av),e=[(3,true,Pn i c.length)]∧st=⟨B++([[.list (a0.map A5) .none]]++Xk4),Rk4,L⟩∧Owns Rw Rk4 [] .none [(i,1,c.flatMap fun x=>(CB x).cells)]∧E6 n c=some r) ?_ ?_
 ·intro K5 ab
  refine rg [3,7,8,9] hs ?_
  apply Aq
  refine Zcy 3 rfl ?_
  refine P4 (ED [3,7,8,9] _) ?_ (FM _ _);simp +decide only [go_sem,Nat.reduceAdd]
  have d:=d.nilV 1
  refine AC (fun m e st=>∃ (a:List ByteArray) (g:Int) (b:VO) (Xl7:Ao) (Rl7:Av),e=[(3,true,Pn b a.length),(7,true,.list (a0.map A5) .none),(8,true,Am (a0.length:Int)),(9,true,Am g)]∧st=⟨B++([[.list (a0.map A5) .none]]++Xl7),Rl7,L⟩∧Owns Rw Rl7 [] .none [(b,1,a.flatMap fun x=>(CB x).cells)]∧B2 n a0 m a g=some r) n ⟨([]),0,.nil,([]),Rw,ef hs,ef hs,Owns.eqV (d) fn_,h⟩ ?_
  rintro ml7 e st ⟨a,g,b,Xl7,Rl7,rfl,rfl,d,h⟩ Ul7 Vl7
  cases ml7 with
  | zero=>cases h
  | succ ml7 =>
  rw [B2] at h
  have E:=d.underV
  simp only [List.mem_cons,List.not_mem_nil,or_false,forall_eq_or_imp,forall_eq] at E
  refine A9 hN K F rfl j d ow ow ?_ (vu @Ti)
  refine rg [3,7,8,9,10] hs ?_
  apply An;intro K10 o
  refine BQ h hs ?_ ?_<;>intro hs h
  rotate_left
  ·refine sx [3] hs ab ?_
   exact ⟨a,b,([]),Rl7,ef hs,ef hs,Owns.eqV (d) fn_,h⟩
  refine sk [3,7,8,9] hs o ?_
  clear o
  apply An;intro K12 p
  apply Aq
  obtain ⟨C,Q,h⟩:=bind_some h
  obtain ⟨ad,Z,w⟩:=Bi Q
  have v:=Bj (f:=A5) w
  have hs:=Ae v hs
  refine rg [3,5,7,8,9] hs ?_
  obtain ⟨k,H,h⟩:=bind_some h
  obtain ⟨t,h⟩:=Au h
  obtain ⟨aa,l,d,y⟩:=d.appendV (P:=Tryz.prog) (n:=a.length) (m:=k.length) OL (by rw [Me];rfl) (by decide) ((KN (f:=CB) (sz:=1) (fun _=>by simp +decide only [go_sem]) _)) t.1 t.2 (k.map CB) (by rw [List.length_map]) ((a++k).flatMap fun x=>(CB x).cells) (ZhR a k)
  have G:(a++k).length=a.length+k.length:=List.length_append
  have hs:=Ae y hs
  have hs:=Ae G hs
  refine rk 2 [3,7,8,9] hs ?_
  refine Aw _ (UQ w0 hE hM hP hT n _ _ _ C.2 _ H) (hv hs) ?_
  refine ne hs p ?_
  clear p
  obtain ⟨ae,h⟩:=Au h
  refine rl [3,7,8,9] hs (fun e s=>Vl7 ml7 e s (Nat.lt_succ_self _)) ?_
  exact ⟨(a++k),(g+1),aa,([.val (.string C.1)::(C.2.cs)]),l,ef hs,ef hs,Owns.eqV (d) fn_,h⟩
 ·clear h;rintro e st ⟨c,i,Xk4,Rk4,rfl,rfl,d,h⟩
  rw [E6] at h
  have E:=d.underV
  simp only [List.mem_cons,List.not_mem_nil,or_false,forall_eq_or_imp,forall_eq] at E
  refine A9 hN K F rfl j d ow ow ?_ (vu @Ti)
  apply An;intro K22 q
  obtain ⟨O,h⟩:=Au h
  obtain ⟨V,d,D⟩:=XY w0 d O
  have J:=Fg c
  refine P8 0 (by decide) ?_
  have hs:=Ae J hs
  refine rk 2 [3] hs ?_
  refine Oh [false] _ (D _ _) (hv hs) ?_;rintro _ _ ⟨rfl,rfl⟩
  refine ne hs q ?_
  clear q
  apply An;intro K27 u
  obtain ⟨N,h⟩:=Au h
  obtain ⟨U,d,z⟩:=YK w0 d N
  refine P8 0 (by decide) ?_
  refine rk 2 [2] hs ?_
  refine Oh [false] _ (z _ _) (hv hs) ?_;rintro _ _ ⟨rfl,rfl⟩
  refine ne hs u ?_
  clear u
  refine ZaO 2 (by first | rfl | (simp only [Xn,List.length_set];rfl)) d false (.inr rfl) (by decide) ((KN (f:=CB) (sz:=1) (fun _=>by simp +decide only [go_sem]) _)) (ZaS (f:=CB) (fun _=>rfl) _) (fun Y d=>?_)
  simp +decide only [go_sem,Nat.reduceAdd,List.set_cons_zero,List.set_cons_succ]
  exact rt h hs j d
def E9 (n:Nat)  : Option Int :=
 some ((-1))
def Bn (n:Nat) (q:List ByteArray) (y:ByteArray→Option Bool):Nat→Int→Option Int
 | 0,_=>none
 | m+1,b =>
  if decide (b<(q.length:Int)) then
   (Cb q b).bind fun g =>
   (y g).bind fun h =>
   if h then
    some (b)
   else
    if A6 (b+1) then
     (Bn n q y m) (b+1)
    else none
  else
   E9 n 
def D3 (n:Nat) (b:List ByteArray) (g:ByteArray→Option Bool):Option Int :=
 Bn n b g n 0
theorem MB (w0:World) (n:Nat) (B:Ao) (Rw:Av) (L:As) (a0:List ByteArray) (fa1:FuncId) (ca1:List AV) (a1:ByteArray→Option Bool) (ha1:∀ (x0:ByteArray) r,a1 x0=some r→∀ B' rows,B <+: B'→Rw <+: rows→ACalls Tryz.prog w0 fa1 ([.val (.string x0)]++ca1) ⟨B',rows,L⟩ fun v s=>v = .val (.bool r)∧s=⟨B',rows,L⟩) (r:Int) (h:D3 n a0 a1=some r) :
  ACalls Tryz.prog w0 183 [.list (a0.map CB) .none,.clo fa1 ca1] ⟨B,Rw,L⟩ fun x st=>x=Am r∧st=⟨B,Rw,L⟩:=by
 rw [D3] at h
 refine hd [.tmp 4] Tryz.func183 Tryz.ntmps183 fun M0 W0 k g i c l f hs=>?_
 simp only [AA]
 have b:=B6 (l (.clo fa1 ca1) (by simp))
 refine rg [0,1] hs ?_
 refine AB (fun e st=>Ck e st B Rw L [] [] [] (E9 n  = some r)) ?_ ?_
 ·intro K4 j
  refine rg [0,1,7,8] hs ?_
  apply Aq
  refine AC (fun m e st=>∃ (d:Int),Ck e st B Rw L [(0,true,.list (a0.map CB) .none),(1,true,.clo fa1 ca1),(7,true,Am (a0.length:Int)),(8,true,Am d)] [] [] (Bn n a0 a1 m d=some r)) n ⟨0,([]),Rw,ef hs,ef hs,f,h⟩ ?_
  rintro ml6 e st ⟨d,Xl6,Rl6,rfl,rfl,f,h⟩ Ul6 Vl6
  cases ml6 with
  | zero=>cases h
  | succ ml6 =>
  rw [Bn] at h
  refine A9 k g i rfl c f (OJ b f) (OJ b f) ?_
  exact go (tg (a:=([0,1,7,8,9],([0,1,7,8],[0,1,5,7,8],[0,1,5,7,8,16],([4],()),[0,1,7,8],[0,1,7,8],()),[],()))) h hs k g i c f (q1 ha1) (q2 j (fun e s=>Vl6 ml6 e s (Nat.lt_succ_self _)))
 ·clear h;rintro e st ⟨Xk3,Rk3,rfl,rfl,f,h⟩
  rw [E9] at h
  refine A9 k g i rfl c f (OJ b f) (OJ b f) ?_
  refine rg [4] hs ?_
  exact rt h hs c f
def BS (n:Nat) (b:List ByteArray) (h:ByteArray→Option Bool):Option Bool :=
 (D3 n b h).bind fun g =>
 some (decide (0≤g))
theorem KV (w0:World) (n:Nat) (B:Ao) (Rw:Av) (L:As) (a0:List ByteArray) (fa1:FuncId) (ca1:List AV) (a1:ByteArray→Option Bool) (ha1:∀ (x0:ByteArray) r,a1 x0=some r→∀ B' rows,B <+: B'→Rw <+: rows→ACalls Tryz.prog w0 fa1 ([.val (.string x0)]++ca1) ⟨B',rows,L⟩ fun v s=>v = .val (.bool r)∧s=⟨B',rows,L⟩) (r:Bool) (h:BS n a0 a1=some r) :
  ACalls Tryz.prog w0 181 [.list (a0.map CB) .none,.clo fa1 ca1] ⟨B,Rw,L⟩ fun x st=>x = .val (.bool r)∧st=⟨B,Rw,L⟩:=by
 rw [BS] at h
 refine hd [.tmp 4] Tryz.func181 Tryz.ntmps181 fun M0 W0 o i j b l g hs=>?_
 simp only [AA]
 have d:=B6 (l (.clo fa1 ca1) (by simp))
 refine rg [0,1] hs ?_
 obtain ⟨m,f,h⟩:=bind_some h
 refine rc 2 [4] hs ?_;intro K2 c
 refine Aw _ (MB w0 n _ _ _ a0 fa1 ca1 a1 (fun x0 r k e a q1 q2=>ha1 x0 r k e a (List.IsPrefix.trans px q1) (g.pre.trans q2)) _ f) (hv hs) ?_
 refine ne hs c ?_
 clear c
 exact rt h hs b g
theorem Zdd (n:Nat) (l:List Part) (f:Part→Option Bool) (p:Part→Bool) (hf:∀ x∈l,f x=some (p x)) (hl:l.length≤1000000000):∀ (k m i:Nat),i+k=l.length→k<m→BF n l f m i=some (Ox p l i)
 | k,0,i,_,h=>absurd h (Nat.not_lt_zero _)
 | 0,m+1,i,hi,_=>by
  rw [BF,AD,Ac,I8 p l i (by omega)]
  rfl
 | k+1,m+1,i,hi,hm=>by
  have a:i<l.length:=by omega
  rw [BF,AD,Ah a,Hg p l i a]
  simp only [if_true,AH a,Af,hf _ (List.getElem_mem a)]
  by_cases h:p l[i]=true
  ·rw [Ai h,Ai h]
  ·rw [Aj h,Aj h,Ai (AG (by omega))]
   exact Zdd n l f p hf hl k m (i+1) (by omega) (by omega)
theorem Zce (n:Nat) (l:List (List Part)) (f:List Part→Option Bool) (p:List Part→Bool) (hf:∀ x∈l,f x=some (p x)) (hl:l.length≤1000000000):∀ (k m i:Nat),i+k=l.length→k<m→Bz n l f m i=some (Ox p l i)
 | k,0,i,_,h=>absurd h (Nat.not_lt_zero _)
 | 0,m+1,i,hi,_=>by
  rw [Bz,AD,Ac,I8 p l i (by omega)]
  rfl
 | k+1,m+1,i,hi,hm=>by
  have a:i<l.length:=by omega
  rw [Bz,AD,Ah a,Hg p l i a]
  simp only [if_true,AH a,Af,hf _ (List.getElem_mem a)]
  by_cases h:p l[i]=true
  ·rw [Ai h,Ai h]
  ·rw [Aj h,Aj h,Ai (AG (by omega))]
   exact Zce n l f p hf hl k m (i+1) (by omega) (by omega)
theorem ZdO (n:Nat) (l:List ByteArray) (f:ByteArray→Option Bool) (p:ByteArray→Bool) (hf:∀ x∈l,f x=some (p x)) (hl:l.length≤1000000000):∀ (k m i:Nat),i+k=l.length→k<m→Bn n l f m i=some (Ox p l i)
 | k,0,i,_,h=>absurd h (Nat.not_lt_zero _)
 | 0,m+1,i,hi,_=>by
  rw [Bn,AD,Ac,I8 p l i (by omega)]
  rfl
 | k+1,m+1,i,hi,hm=>by
  have a:i<l.length:=by omega
  rw [Bn,AD,Ah a,Hg p l i a]
  simp only [if_true,AH a,Af,hf _ (List.getElem_mem a)]
  by_cases h:p l[i]=true
  ·rw [Ai h,Ai h]
  ·rw [Aj h,Aj h,Ai (AG (by omega))]
   exact ZdO n l f p hf hl k m (i+1) (by omega) (by omega)
theorem MW (n:Nat) (l:List Part) (f:Part→Option Bool) (p:Part→Bool) (hf:∀ x∈l,f x=some (p x)) (hl:l.length≤1000000000) (hn:l.length<n):A3 n l f=some (l.any p):=by
 have e:EL n l f=some (Ox p l 0):=Zdd n l f p hf hl l.length n 0 (by omega) hn
 rw [A3,e,Af,Lc]
theorem Xo (n:Nat) (l:List (List Part)) (f:List Part→Option Bool) (p:List Part→Bool) (hf:∀ x∈l,f x=some (p x)) (hl:l.length≤1000000000) (hn:l.length<n):BD n l f=some (l.any p):=by
 have e:Da n l f=some (Ox p l 0):=Zce n l f p hf hl l.length n 0 (by omega) hn
 rw [BD,e,Af,Lc]
theorem WI (n:Nat) (l:List ByteArray) (f:ByteArray→Option Bool) (p:ByteArray→Bool) (hf:∀ x∈l,f x=some (p x)) (hl:l.length≤1000000000) (hn:l.length<n):BS n l f=some (l.any p):=by
 have e:D3 n l f=some (Ox p l 0):=ZdO n l f p hf hl l.length n 0 (by omega) hn
 rw [BS,e,Af,Lc]
def IU (f:Part→Part→Bool):List Part→List Part→Bool
 | x::a,y::b=>f x y&&IU f a b
 | _,_=>true
theorem NJ (f:Part→Part→Bool) (a:List Part):IU f a []=true:=by cases a<;>rfl
theorem QD (f:Part→Part→Bool):∀ (b a:List Part),IU f (a.take b.length) b=IU f a b
 | [],a=>by rw [NJ,NJ]
 | y::b,[]=>rfl
 | y::b,x::a=>by rw [List.length_cons,List.take_succ_cons,IU,IU,QD f b a]
theorem Oc (f:Part→Part→Bool) {a b:List Part} {i:Nat} (ha:i<a.length) (hb:i<b.length):IU f (a.drop i) (b.drop i)=(f a[i] b[i]&&IU f (a.drop (i+1)) (b.drop (i+1))):=by
 rw [List.drop_eq_getElem_cons ha,List.drop_eq_getElem_cons hb,IU]
theorem V3 (f:Part→Part→Bool) {a b:List Part} {i:Nat} (hb:b.length≤i):IU f (a.drop i) (b.drop i)=true:=by
 rw [List.drop_eq_nil_of_le hb,NJ]
theorem QN (f:Part→Part→Bool) {a b:List Part} {i:Nat} (hb:a.length≤i):IU f (a.drop i) (b.drop i)=true:=by
 rw [List.drop_eq_nil_of_le hb];rfl
def UN (x y:Part):Bool:=decide (x.kind=y.kind)&&(decide (x.index=y.index)&&(Gn x.name y.name))
theorem Zaq (n:Nat) (a b:List Part) (h:a.length=b.length) (hl:a.length≤1000000):∀ (k m i:Nat),i+k=a.length→k<m→Ci n a b m i=some (IU UN (a.drop i) (b.drop i))
 | k,0,i,_,h=>absurd h (Nat.not_lt_zero _)
 | 0,m+1,i,hi,_=>by
  rw [Ci,AD,Ac,Aj (by decide),GL,QN _ (by omega)]
 | k+1,m+1,i,hi,hm=>by
  have d:i<a.length:=by omega
  have c:i<b.length:=by omega
  have ih:=Zaq n a b h hl k m (i+1) (by omega) (by omega)
  rw [Ci,AD,Ah d,Ai rfl,AH d,Af,AH c,Af,Oc _ d c]
  show (if (!UN a[i] b[i])=true then _ else _)=_
  cases UN a[i] b[i] with
  | false=>rfl
  | true =>
   rw [Aj (by decide),Ai (AG (by omega)),Bool.true_and]
   exact ih
theorem ZcK (n:Nat) (a b:List Part) (h:a.length=b.length) (hl:a.length≤1000000) (hn:a.length<n):Eg n a b=some (IU UN a b):=by
 rw [Eg,Ad,Aj (by decide)]
 have:=Zaq n a b h hl a.length n 0 (by omega) hn
 rw [List.drop_zero,List.drop_zero] at this
 exact this
def NI (l f:List Part):Bool:=decide (f.length≤l.length)&&IU UN l f
theorem VF (n:Nat) (l f:List Part) (hl:l.length≤1000000) (hn:l.length<n):DJ n l f=some (NI l f):=by
 rw [DJ,NI]
 by_cases h:f.length≤l.length
 ·have a:(l.take f.length).length=f.length:=by rw [List.length_take];omega
  rw [Ad,Ai rfl,Ai ⟨by decide,by omega,by omega⟩,ZcK n _ f a (by omega) (by omega),QD,Af,Ah h,Bool.true_and]
 ·rw [Ac,Aj (by decide),Ag h,Bool.false_and]
theorem Yt (n:Nat) (hn:400≤n) (a:List (ByteArray × Ex)) (ha:a.length≤256):∀ (k m i:Nat) (seen:List (List Part)),i+k=a.length→k<m→seen.length=i→(∀ l∈seen,Wl l)→∃ e,CV n a m seen i=some e
 | k,0,i,_,_,h,_,_=>absurd h (Nat.not_lt_zero _)
 | 0,m+1,i,s,hi,_,_,_=>by
  rw [CV,AD,Ac,Aj (by decide)]
  exact ⟨_,rfl⟩
 | k+1,m+1,i,s,hi,hm,hs,hp=>by
  have b:i<a.length:=by omega
  obtain ⟨e,ok⟩:=SZ n (by omega) a[i].1
  rw [CV,AD,Ah b,Ai rfl,AH b,Af,e,Af]
  generalize XW n a[i].1=r at ok ⊢
  by_cases c:r.2=0
  rotate_left
  ·rw [Ag c,Ai (by rfl)];exact ⟨_,rfl⟩
  have f:=ok.1
  rw [Ah c,Aj (by decide),MW n r.1 _ (fun x=>DL x) (fun x _=>rfl) (by omega) (by omega),Af]
  split
  ·exact ⟨_,rfl⟩
  rw [Xo n s _ (fun o=>NI r.1 o||NI o r.1) (fun o ho=>by
   have d:=(hp o ho).1
   rw [EW,VF n _ _ (by omega) (by omega),Af,VF n _ _ (by omega) (by omega)]
   cases NI r.1 o<;>rfl) (by omega) (by omega),Af]
  split
  ·exact ⟨_,rfl⟩
  rw [Ab,Ai (AG (by omega))]
  exact Yt n hn a ha k m (i+1) _ (by omega) (by omega) (by rw [E1];omega) (IY hp ok)
theorem ZfG (n:Nat) (hn:400≤n) (a:List (ByteArray × Ex)) (ha:QR a):∃ e,Db n a=some e:=by
 have:=ha.1
 rw [Db,Aj (by rw [decide_eq_true_eq];omega)]
 exact Yt n hn a (by omega) a.length n 0 [] (by omega) (by omega) rfl (by simp)
theorem Zcq (n:Nat) (e:Ex):∃ r,DO n e=some r:=by
 rw [DO];split<;>exact ⟨_,rfl⟩
theorem Zhz (n:Nat) (hn:1200000≤n) (e:Ex) (hv:∀ v∈e.value,v.size≤1100000∧v.ok):∃ r,Fq n e=some r:=by
 rw [Fq]
 split
 ·exact ⟨_,rfl⟩
 split
 ·exact ⟨_,rfl⟩
 split
 ·exact ⟨_,rfl⟩
 split
 ·exact ⟨_,rfl⟩
 split
 ·exact ⟨_,rfl⟩
 split
 ·rw [F3]
  split
  ·exact ⟨_,rfl⟩
  split
  ·rename_i c
   have c:=of_decide_eq_true c
   obtain ⟨x,a⟩:=List.length_eq_one_iff.1 (show e.value.length=1 by omega)
   obtain ⟨f,b⟩:=hv x (by rw [a];exact List.mem_singleton.2 rfl)
   rw [a,show Cb [x] 0=some x from rfl,Af,Uu n x (by omega) (by have:=x.depth_size;omega) (G1 _ x (Nat.le_refl _) (by omega)) b,Af]
   split
   ·exact ⟨_,rfl⟩
   split<;>exact ⟨_,rfl⟩
  ·exact ⟨_,rfl⟩
 split
 ·obtain ⟨q,ok⟩:=SZ n (by omega) e.text
  have d:=ok.1
  rw [q,Af]
  split
  ·exact ⟨_,rfl⟩
  rw [MW n _ _ (fun x=>Dw x) (fun x _=>rfl) (by omega) (by omega),Af]
  split
  ·exact ⟨_,rfl⟩
  ·exact Zcq n e
 ·exact Zcq n e
theorem Yh (rec:Ex→Int→Int→Option (Int × Int)) (n:Nat) (e:Ex) (lv:Int) (hlv:A6 (lv+1)) (ha:e.args.length≤4)
  (hr:∀ x∈e.args,∀ c:Int,0≤c→c≤256→∃ r,rec x (lv+1) c=some r∧0≤r.2∧r.2≤256):∀ (k m i:Nat) (c:Int),i+k=e.args.length→k<m→0≤c→c≤256→∃ r,CQ rec n e lv m i c=some r∧0≤r.2∧r.2≤256
 | k,0,i,_,_,h,_,_=>absurd h (Nat.not_lt_zero _)
 | 0,m+1,i,c,hi,_,c1,c2=>by
  rw [CQ,AD,Ac,Aj (by decide)]
  exact ⟨_,rfl,c1,c2⟩
 | k+1,m+1,i,c,hi,hm,c1,c2=>by
  have a:i<e.args.length:=by omega
  obtain ⟨r,q,b,d⟩:=hr _ (List.getElem_mem a) c c1 c2
  rw [CQ,AD,Ah a,Ai rfl,AH a,Af,Ai hlv,q,Af]
  split
  ·exact ⟨_,rfl,b,d⟩
  ·rw [Ai (AG (by omega))]
   exact Yh rec n e lv hlv ha hr k m (i+1) r.2 (by omega) (by omega) b d
def Ex.bnd:Nat→Ex→Prop
 | 0,_=>False
 | d+1,e=>(∀ v∈e.value,v.size≤1100000∧v.ok)∧e.args.length≤4∧(∀ x∈e.args,Ex.bnd d x)∧e.value.length≤2
theorem Ex.fits.bnd:∀ {d:Nat} {e:Ex},e.fits d→e.bnd d
 | 0,_,h=>h.elim
 | d+1,e,⟨_,f2,f3,f4,f5⟩=>⟨fun v hv=>⟨by have:=(f2 v hv).1;omega,(f2 v hv).2⟩,f3,fun x a=>(f4 x a).bnd,f5⟩
theorem Zgn:∀ (d n:Nat) (e:Ex) (lv c:Int),e.bnd d→1200001+d≤n→0≤lv→lv≤100→0≤c→c≤256→∃ r,DT n e lv c=some r∧0≤r.2∧r.2≤256
 | 0,_,_,_,_,h,_,_,_,_,_=>h.elim
 | d+1,n,e,lv,c,h,hn,l1,l2,b,a=>by
  obtain ⟨n,rfl⟩:∃ q,n=q+1:=⟨n-1,by omega⟩
  obtain ⟨i,f,j,_⟩:=h
  rw [DT,Ir]
  by_cases z:c=256
  ·rw [Ah z,Ai rfl];exact ⟨_,rfl,b,a⟩
  rw [Ag z,Aj (by decide),Ai (by unfold A6;omega)]
  split
  ·exact ⟨_,rfl,by simp only;omega,by simp only;omega⟩
  rename_i q
  have q:¬ 8<lv:=of_decide_eq_false (Bool.eq_false_iff.2 q)
  obtain ⟨r,o⟩:=Zhz n (by omega) e i
  rw [o,Af]
  split
  ·exact ⟨_,rfl,by simp only;omega,by simp only;omega⟩
  exact Yh (DT n) n e lv (by unfold A6;omega) f (fun x g c b a=>Zgn d n x (lv+1) c (j x g) (by omega) (by omega) (by omega) b a) e.args.length n 0 (c+1) (by omega) (by omega) (by omega) (by omega)
theorem Zfx (n d:Nat) (hn:1200002+d≤n) (e:Ex) (h:e.bnd d):∃ r,GK n e=some r:=by
 obtain ⟨r,q,_⟩:=Zgn d n e 1 0 h (by omega) (by decide) (by decide) (by decide) (by decide)
 exact ⟨_,by rw [GK,q];rfl⟩
def PO:Nat→Nat
 | 0=>0
 | d+1=>1+4*PO d
theorem V7 (rec:Ex→List ByteArray→Option (List ByteArray)) (n N:Nat) (e:Ex) (ha:e.args.length≤4)
  (hr:∀ x∈e.args,∀ l:List ByteArray,l.length+N≤1000000→∃ r,rec x l=some r∧r.length≤l.length+N):∀ (k m i:Nat) (l:List ByteArray),i+k=e.args.length→k<m→l.length+k*N≤1000000→∃ r,CW rec n e m i l=some r∧r.length≤l.length+k*N
 | k,0,i,_,_,h,_=>absurd h (Nat.not_lt_zero _)
 | 0,m+1,i,l,hi,_,h=>by
  rw [CW,AD,Ac,Aj (by decide)]
  exact ⟨_,rfl,by omega⟩
 | k+1,m+1,i,l,hi,hm,h=>by
  have a:i<e.args.length:=by omega
  rw [Nat.add_mul] at h ⊢
  obtain ⟨r,q,b⟩:=hr _ (List.getElem_mem a) l (by omega)
  obtain ⟨w,q2,c⟩:=V7 rec n N e ha hr k m (i+1) r (by omega) (by omega) (by omega)
  rw [CW,AD,Ah a,Ai rfl,AH a,Af,q,Af,Ai (AG (by omega))]
  exact ⟨w,q2,by omega⟩
theorem ZcI:∀ (d n:Nat) (e:Ex) (l:List ByteArray),e.fits d→10+d≤n→l.length+PO d≤1000000→∃ r,C6 n e l=some r∧r.length≤l.length+PO d
 | 0,_,_,_,h,_,_=>h.elim
 | d+1,n,e,l,h,hn,hl=>by
  obtain ⟨n,rfl⟩:∃ q,n=q+1:=⟨n-1,by omega⟩
  obtain ⟨m,o,c,k,_⟩:=h
  rw [PO] at hl ⊢
  have a:∀ b:List ByteArray,b.length≤l.length+1→∃ r,Ee (C6 n) n e b=some r∧r.length≤l.length+(1+4*PO d):=fun b i=>by
   rw [Ee]
   have p:e.args.length*PO d≤4*PO d:=Nat.mul_le_mul_right _ c
   obtain ⟨r,q,w⟩:=V7 (C6 n) n (PO d) e c (fun x j f g=>ZcI d n x f (k x j) (by omega) g) e.args.length n 0 b (by omega) (by omega) (by omega)
   exact ⟨r,q,by omega⟩
  rw [C6,Ik]
  split
  ·rw [Ab]
   exact a _ (by rw [E1];omega)
  ·exact a _ (by omega)
theorem Vf (l:List ByteArray):(Js l).length≤l.length:=by
 have:=Lib.compact_length_le (l.map bl)
 rw [List.length_map] at this
 rw [Js,List.length_map];exact this
theorem Zbk (n:Nat) (hn:1200010≤n) (e:Ex) (h:e.fits 4):∃ r,Ip n e=some r∧r.length≤85:=by
 obtain ⟨c,q⟩:=Zfx n 4 (by omega) e h.bnd
 rw [Ip,q,Af]
 split
 ·exact ⟨_,rfl,by simp⟩
 ·obtain ⟨r,q,w⟩:=ZcI 4 n e [] h (by omega) (by decide)
  have w:r.length≤85:=by have:PO 4=85:=rfl;rw [this] at w;simpa using w
  rw [q,Af,Ab,Ai (by rw [Fg];omega)]
  have:=Vf (Ji r)
  rw [Fg] at this
  exact ⟨_,rfl,by omega⟩
theorem Zcr (n:Nat) (hn:1200010≤n) (a:List (ByteArray × Ex)) (ha:QR a):∀ (k m i:Nat) (l:List ByteArray),i+k=a.length→k<m→l.length≤i*85→∃ r,B2 n a m l i=some r∧r.length≤1000
 | k,0,i,_,_,h,_=>absurd h (Nat.not_lt_zero _)
 | 0,m+1,i,l,hi,_,h=>by
  have:=ha.1
  rw [B2,AD,Ac,Aj (by decide),E6,Ab,Ai (by rw [Fg];omega)]
  have:=Vf (Ji l)
  rw [Fg] at this
  exact ⟨_,rfl,by omega⟩
 | k+1,m+1,i,l,hi,hm,h=>by
  have:=ha.1
  have b:i<a.length:=by omega
  obtain ⟨r,q,w⟩:=Zbk n hn a[i].2 (ha.2 _ (List.getElem_mem b)).2
  rw [B2,AD,Ah b,Ai rfl,AH b,Af,q,Af,Ab,Ai (AG (by omega))]
  exact Zcr n hn a ha k m (i+1) _ (by omega) (by omega) (by rw [List.length_append,Nat.add_mul];omega)
theorem Zhn (n:Nat) (hn:1200010≤n) (a:List (ByteArray × Ex)) (ha:QR a):∃ r,Dn n a=some r∧r.length≤1000:=by
 have:=ha.1
 exact Zcr n hn a ha a.length n 0 [] (by omega) (by omega) (by simp)
theorem P5 {α:Type} (p:α→Bool) (l:List α):∀ (k j:Nat),j+k=l.length→(l.drop j).find? p=Cb l (Ox p l j)
 | 0,j,h=>by rw [I8 p l j (by omega),List.drop_eq_nil_of_le (by omega)];rfl
 | k+1,j,h=>by
  have a:j<l.length:=by omega
  rw [Hg p l j a,List.drop_eq_getElem_cons a,List.find?_cons]
  cases hp:p l[j] with
  | true=>rw [Ai rfl,AH a]
  | false=>rw [Aj (by decide)];exact P5 p l k (j+1) (by omega)
theorem Zdy {α:Type} (p:α→Bool) (l:List α):l.find? p=Cb l (Ox p l 0):=P5 p l l.length 0 (by omega)
def LG (t:Ty) (w:ByteArray):Option TF:=t.fields.find? fun x=>Gn x.2.1 w
theorem SD {t:Ty} {w:ByteArray} {p:TF} (h:LG t w=some p):p∈t.fields∧p.2.1=w:=⟨List.mem_of_find?_eq_some h,(P1 _ _).1 (List.find?_some (p:=fun x:TF=>Gn x.2.1 w) h)⟩
def Nr:Nat→Ty→Vl→Bool
 | 0,_,_=>false
 | d+1,t,v =>
  if t.kind≠v.kind then false
  else if t.kind=2∨t.kind=6∨t.kind=7 then decide (t.min≤v.int)&&decide (v.int≤t.max)
  else if t.kind=3 then decide (v.scale=t.scale)&&(decide (t.min≤v.int)&&decide (v.int≤t.max))
  else if t.kind=4 then (t.words.any fun x=>Gn x v.text)||(decide ((t.words.length:Int)=0)&&Ys t v.text.size)
  else if t.kind=5 then Ys t v.text.size
  else if t.kind=8 then (v.list.all fun x=>t.elem.all fun e=>Nr d e x)&&Ys t v.list.length
  else if t.kind=10 then match LG t v.text with
   | some p=>v.list.all fun x=>Nr d p.2.2.2.1 x
   | none=>false
  else if t.kind=9 then (v.fields.all fun q=>match LG t q.1 with
   | some p=>Nr d p.2.2.2.1 q.2
   | none=>false) && !(t.fields.any (ZdN v))
  else true
theorem Ty.depth_elem {t x:Ty} (hx:x∈t.elem):x.depth<t.depth:=by
 have:=t.depth_eq
 have:=(IA t.elem (Hk t.elem)).1 (Nat.le_refl _) x hx
 omega
theorem Ty.depth_field {t:Ty} {p:TF} (hx:p∈t.fields):p.2.2.2.1.depth<t.depth:=by
 have:=t.depth_eq
 have:=(HO t.fields (Ft t.fields)).1 (Nat.le_refl _) p hx
 omega
theorem ZaT {v:Vl} (gv:v.Good) (vk:v.kind=10):∃ x,v.list=[x]:=by
 obtain ⟨_,a⟩:=Vs (QO gv)
 have q:=QO gv
 rw [Fj] at q
 by_cases p1:Fe v=true
 ·rw [Ai p1] at q;exact absurd q (by decide)
 rw [Aj p1,Aa,Aj a,Aa,Aa,Aa,Aa,Aa,Aa,Aa,Aa,Aa] at q
 by_cases p2:EZ v.text=true
 ·rw [Ai p2] at q
  by_cases p3:v.list.length=0
  ·rw [Ai p3] at q;exact absurd q (by decide)
  rw [Aj p3] at q
  by_cases p4:1<v.list.length
  ·rw [Ai p4] at q;exact absurd q (by decide)
  exact List.length_eq_one_iff.1 (by omega)
 ·rw [Aj p2] at q;exact absurd q (by decide)
def Zjf (d:Nat) (t:Ty) (q:ByteArray × Vl):Bool:=match LG t q.1 with
 | some p=>Nr d p.2.2.2.1 q.2
 | none=>false
inductive Ty.Fine:Nat→Ty→Prop
 | mk (d:Nat) (t:Ty) (own:PZ t=0) (he:∀ x∈t.elem,Ty.Fine d x) (hf:∀ p∈t.fields,Ty.Fine d p.2.2.2.1) (hd:∀ p∈t.fields,∀ v∈p.2.2.2.2,Tn v=0∧Nr 12 p.2.2.2.1 v=true):Ty.Fine (d+1) t
theorem Ty.Fine.depth:∀ (d:Nat) (t:Ty),t.Fine d→t.depth≤d
 | 0,t,h=>by cases h
 | d+1,t,h=>by
  cases h with
  | mk _ _ own he hf hd =>
   have b:=(IA t.elem d).2 fun x a=>Ty.Fine.depth d x (he x a)
   have c:=(HO t.fields d).2 fun x a=>Ty.Fine.depth d _ (hf x a)
   have:=t.depth_eq
   omega
theorem Ty.Fine.own {d:Nat} {t:Ty} (h:t.Fine d):PZ t=0:=by cases h with | mk _ _ a _ _ _=>exact a
theorem Ty.Fine.good:∀ {d:Nat} {t:Ty},t.Fine d→t.Good
 | 0,t,h=>by cases h
 | d+1,t,h=>by
  cases h with
  | mk _ _ own he hf hd=>exact .mk t own (fun x b=>(he x b).good) fun p a=>(hf p a).good
theorem Ty.Fine.elem {d:Nat} {t x:Ty} (h:t.Fine (d+1)) (hx:x∈t.elem):x.Fine d:=by cases h with | mk _ _ _ a _ _=>exact a x hx
theorem Ty.Fine.field {d:Nat} {t:Ty} {p:TF} (h:t.Fine (d+1)) (hx:p∈t.fields):p.2.2.2.1.Fine d:=by cases h with | mk _ _ _ _ a _=>exact a p hx
theorem YT:∀ l:List Ty,FR l=(l.map Ty.size).sum
 | []=>rfl
 | v::r=>by simp [FR,YT r]
theorem VX:∀ l:List TF,D2 l=(l.map fun p=>p.2.2.2.1.size).sum
 | []=>rfl
 | (_,_,_,v,_)::r=>by simp [D2,VX r]
theorem ZI (t:Ty):((IL t).map Ty.size).sum<t.size:=by
 have c:=t.size_eq
 unfold IL
 split
 ·rw [←YT];omega
 ·split
  ·rw [List.map_map]
   have:=VX t.fields
   have e:(t.fields.map (Ty.size∘fun p=>p.2.2.2.1)).sum=D2 t.fields:=this.symm
   omega
  ·simp;omega
def BC (t:Ty):List (Ty × Part) :=
 if t.kind=8 then t.elem.map fun e=>(e,Part.mk 3 0 ⟨#[]⟩)
 else if t.kind=9 then t.fields.map fun f=>(f.2.2.2.1,Part.mk 1 0 f.2.1)
 else if t.kind=10 then t.fields.map fun f=>(f.2.2.2.1,Part.mk 4 0 f.2.1) else []
theorem Pe (t:Ty):(BC t).map Prod.fst=IL t:=by
 unfold BC IL
 by_cases h8:t.kind=8
 ·rw [Ai h8,Ai h8,List.map_map];exact List.map_id _
 rw [Aj h8,Aj h8]
 by_cases h9:t.kind=9
 ·rw [Ai h9,Ai (.inl h9),List.map_map];rfl
 rw [Aj h9]
 by_cases h10:t.kind=10
 ·rw [Ai h10,Ai (.inr h10),List.map_map];rfl
 rw [Aj h10,Aa];rfl
theorem OQ (t:Ty):(BC t).length=(IL t).length:=by rw [←Pe,List.length_map]
def lvs:Nat→Ty→List Part→List (List Part)
 | 0,_,_=>[]
 | n+1,t,b=>if (BC t).length=0 then [b] else (BC t).flatMap fun q=>lvs n q.1 (b++[q.2])
theorem XC {t:Ty} {q:Ty × Part} (h:q∈BC t):q.1.size<t.size:=by
 unfold BC at h
 split at h
 ·obtain ⟨e,a,rfl⟩:=List.mem_map.1 h;exact t.elem_size e a
 ·split at h
  ·obtain ⟨e,a,rfl⟩:=List.mem_map.1 h;exact t.field_size e a
  ·split at h
   ·obtain ⟨e,a,rfl⟩:=List.mem_map.1 h;exact t.field_size e a
   ·simp at h
theorem Qi {t:Ty} {q:Ty × Part} (h:q∈BC t):q.1.depth<t.depth:=by
 have hd:=t.depth_eq
 have c:=(IA t.elem (Hk t.elem)).1 (Nat.le_refl _)
 have b:=(HO t.fields (Ft t.fields)).1 (Nat.le_refl _)
 unfold BC at h
 split at h
 ·obtain ⟨e,a,rfl⟩:=List.mem_map.1 h;have:=c e a;simp only;omega
 ·split at h
  ·obtain ⟨e,a,rfl⟩:=List.mem_map.1 h;have:=b e a;simp only;omega
  ·split at h
   ·obtain ⟨e,a,rfl⟩:=List.mem_map.1 h;have:=b e a;simp only;omega
   ·simp at h
theorem Wn {t:Ty} (ht:t.small) {q:Ty × Part} (h:q∈BC t):q.1.small:=by
 unfold BC at h
 split at h
 ·obtain ⟨e,a,rfl⟩:=List.mem_map.1 h;exact Ty.small_elem ht a
 ·split at h
  ·obtain ⟨e,a,rfl⟩:=List.mem_map.1 h;exact Ty.small_field ht a
  ·split at h
   ·obtain ⟨e,a,rfl⟩:=List.mem_map.1 h;exact Ty.small_field ht a
   ·simp at h
theorem Ro {t:Ty} (ht:t.Good) {q:Ty × Part} (h:q∈BC t):q.1.Good:=by
 unfold BC at h
 split at h
 ·obtain ⟨e,a,rfl⟩:=List.mem_map.1 h;exact Oq ht a
 ·split at h
  ·obtain ⟨e,a,rfl⟩:=List.mem_map.1 h;exact HF ht a
  ·split at h
   ·obtain ⟨e,a,rfl⟩:=List.mem_map.1 h;exact HF ht a
   ·simp at h
theorem O2 (t:Ty):((BC t).map fun q=>q.1.size).sum<t.size:=by
 have:=ZI t
 rw [←Pe,List.map_map] at this
 exact this
theorem VD {α β:Type} (f:α→List β) (g:α→Nat):∀ l:List α,(∀ x∈l,(f x).length≤g x)→(l.flatMap f).length≤(l.map g).sum
 | [],_=>by simp
 | x::l,h=>by
  have b:=h x (List.mem_cons_self ..)
  have c:=VD f g l fun y a=>h y (List.mem_cons_of_mem _ a)
  rw [List.flatMap_cons,List.length_append,List.map_cons,List.sum_cons]
  omega
theorem WH:∀ (n:Nat) (t:Ty) (b:List Part),(lvs n t b).length≤t.size
 | 0,t,_=>by simp [lvs]
 | n+1,t,b=>by
  have a:=t.size_pos
  rw [lvs]
  split
  ·simp only [List.length_cons,List.length_nil];omega
  ·have:=VD (fun q:Ty × Part=>lvs n q.1 (b++[q.2])) (fun q=>q.1.size) (BC t) fun q _=>WH n q.1 _
   have:=O2 t
   omega
inductive Leads:Ty→List Part→Ty→Prop
 | nil (t:Ty):Leads t [] t
 | cons {t x:Ty} {q:Ty × Part} {l:List Part} (h:q∈BC t) (k:Leads q.1 l x):Leads t (q.2::l) x
theorem VV:∀ (n:Nat) (t:Ty) (b l:List Part),l∈lvs n t b→∃ l' x,l=b++l'∧Leads t l' x∧BC x=[]∧l'.length<t.depth
 | 0,_,_,_,h=>by simp [lvs] at h
 | n+1,t,b,l,h=>by
  rw [lvs] at h
  split at h
  ·rename_i h0
   rw [List.mem_singleton] at h
   exact ⟨[],t,by rw [h,List.append_nil],.nil t,List.length_eq_zero_iff.1 h0,by have:=t.depth_eq;simp only [List.length_nil];omega⟩
  ·obtain ⟨q,a,c⟩:=List.mem_flatMap.1 h
   obtain ⟨l',x,f,d,e,g⟩:=VV n q.1 _ _ c
   have:=Qi a
   exact ⟨q.2::l',x,by rw [f,List.append_assoc];rfl,.cons a d,e,by simp only [List.length_cons];omega⟩
theorem WC {k i:Int} {s:ByteArray} (hk:A6 k) (hi:A6 i) (hs:s.size≤maxLen):(Part.mk k i s).wf:=⟨hk,hi,hs⟩
theorem Leads.wf {t x:Ty} {l:List Part} (h:Leads t l x) (tg:t.Good):∀ p∈l,p.wf:=by
 induction h with
 | nil=>simp
 | @cons t x q l h k ih =>
  intro p hp
  rcases List.mem_cons.1 hp with rfl | hp
  ·have own:=tg.own
   have b:∀ f∈t.fields,f.2.1.size≤32:=fun f c=>Uj (own.each f c).1
   unfold BC at h
   split at h
   ·obtain ⟨e,a,rfl⟩:=List.mem_map.1 h;exact WC (by unfold A6;omega) (by unfold A6;omega) (by decide)
   ·split at h
    ·obtain ⟨e,a,rfl⟩:=List.mem_map.1 h;exact WC (by unfold A6;omega) (by unfold A6;omega) (Nat.le_trans (b e a) (by decide))
    ·split at h
     ·obtain ⟨e,a,rfl⟩:=List.mem_map.1 h;exact WC (by unfold A6;omega) (by unfold A6;omega) (Nat.le_trans (b e a) (by decide))
     ·simp at h
  ·exact ih (Ro tg h) p hp
theorem YG (n:Nat) (hn:25≤n) (l:List Part) (hw:∀ p∈l,p.wf) (hl:l.length≤20):∃ b:Bool,IC n l=some (if b=true then 0 else 3):=by
 rw [IC]
 by_cases h:l.length<1∨16<l.length
 ·exact ⟨false,by rw [Ai (by simp only [Bool.or_eq_true,decide_eq_true_eq];omega)];rfl⟩
 rw [Aj (by simp only [Bool.or_eq_true,decide_eq_true_eq];omega)]
 match l,h,hw,hl with
 | [],h,_,_=>exact absurd (Or.inl (by simp)) h
 | p::r,h,hw,hl =>
 rw [List.length_cons] at hl
 have c:Cb (p::r) 0=some p:=rfl
 rw [c,Af]
 by_cases h1:p.kind=1
 ·rw [Ah h1]
  simp only [Bool.not_true,Bool.false_eq_true,if_false]
  have a:E0 n (p::r) n (-1) 0=_:=Ta n (p::r) hw (by rw [List.length_cons];omega) (p::r).length n 0 (-1) (by omega) (by rw [List.length_cons];omega) (by omega) (by omega)
  exact ⟨_,a⟩
 ·rw [Ag h1]
  exact ⟨false,rfl⟩
def DW (rec:Ty→(List Part)→(List (List Part))→Option ((List (List Part)))) (n:Nat) (g:Int→(List (List Part))→Option ((List (List Part)))) (h:List Part) (b:Int) (q:Ty) (b2_k23_0:Int) (b2_k23_2:ByteArray) (pla2_k23:List (List Part)):Option ((List (List Part))) :=
 if h.length*32≤140737488355328 then
  if (h.length+1)*32≤140737488355328∧h.length+1≤4611686018427387904 then
   (rec q (h++([Part.mk b2_k23_0 0 b2_k23_2])) pla2_k23).bind fun y =>
   if A6 (b+1) then
    g (b+1) y
   else none
  else none
 else none
def BE (rec:Ty→(List Part)→(List (List Part))→Option ((List (List Part)))) (n:Nat) (q:Ty) (y:List Part) (g:(List Ty)):Nat→Int→(List (List Part))→Option ((List (List Part)))
 | 0,_,_=>none
 | m+1,b,pla2_l14 =>
  if decide (b<(g.length:Int)) then
   (Cb g b).bind fun h =>
   if decide (q.kind=9) then
    (Cb q.fields b).bind fun z =>
    DW rec n (BE rec n q y g m) y b h 1 z.2.1 pla2_l14
   else
    if decide (q.kind=10) then
     (Cb q.fields b).bind fun x31 =>
     DW rec n (BE rec n q y g m) y b h 4 x31.2.1 pla2_l14
    else
     DW rec n (BE rec n q y g m) y b h 3 (⟨#[]⟩:ByteArray) pla2_l14
  else
   some (pla2_l14)
def J5 (rec:Ty→(List Part)→(List (List Part))→Option ((List (List Part)))) (n:Nat) (q:Ty) (h:List Part) (b:List (List Part)):Option ((List (List Part))) :=
 (IE n q).bind fun y =>
 if decide ((y.length:Int)=0) then
  if h.length*32≤140737488355328 then
   if (b.length+1)*24≤140737488355328∧b.length+1≤4611686018427387904 then
    some (b++([h]))
   else none
  else none
 else
  (IE n q).bind fun g =>
  BE rec n q h g n 0 b
def E2:Nat→Ty→(List Part)→(List (List Part))→Option ((List (List Part)))
 | 0,_,_,_=>none
 | n+1,g,h,b=>J5 (E2 n) n g h b
def MY (w0:World) (F:Ty→(List Part)→(List (List Part))→Option ((List (List Part)))):Prop:=∀ (B:Ao) (Rw:Av) (L:As) (g:Ty) (h:List Part) (la2:Nat) (b:List (List Part)) (oa2:Ev.Own) (hla2:B[la2]? = some [.list (b.map (Jc AK)) oa2]) (hGa2:Owns Rw Rw [(1,b.length,oa2)] oa2) (la3:Nat) (hla3:B[la3]? = some [.clo 92 [.box la2 0,.box la3 0]]) (r:(List (List Part))),F g h b=some r→ACalls Tryz.prog w0 92 [.agg (g.cs),.list (h.map AK) .none,.box la2 0,.box la3 0] ⟨B,Rw,L⟩ fun x st=>x = .tup []∧∃ (R1:Av) (o1:Ev.Own),st=⟨(B.set la2 [.list (r.map (Jc AK)) o1]),R1,L⟩∧Owns Rw R1 [(1,r.length,o1)] oa2
theorem R2 (w0:World) (rec:Ty→(List Part)→(List (List Part))→Option ((List (List Part)))) (ih:MY w0 rec) (n:Nat):MY w0 (J5 rec n):=by
 intro B Rw L a0 a1 H a2 ad g am K c r h
 rw [J5] at h
 refine ACalls.finG (FN (rs:=[]) Tryz.func92 rfl rfl Tryz.ntmps92 (AZ Tryz.func92 rfl (by decide)) (Nat.le_of_ble_eq_true rfl) ?_)
 intro M0 W0 hN O J E hu
 dsimp only at hN O J E hu
 simp only [AA]
 have D:=am
 have hs:=ZcH
 have au:=(Ak.1 g).1
 have ar:=(Ak.1 c).1
 have b:H≠K:=fun q=>by have k:=g;rw [q,c] at k;cases k
 have hs:=Ae (Ar g) hs
 have hs:=Ae (Ar c) hs
 have hs:=Ae (Bd c b) hs
 refine rg [1,2,3,4] hs ?_
 apply An;intro K2 ah
 obtain ⟨y4,a3,h⟩:=bind_some h
 refine rc 2 [1,2,3,4,12] hs ?_;intro K3 ap
 refine Aw _ (O7 w0 n _ _ _ a0 _ a3) (hv hs) ?_
 refine ne hs ap ?_
 clear ap
 refine BQ h hs ?_ ?_<;>intro hs h
 ·have x:=hs.1
  obtain ⟨a4,h⟩:=Au h
  obtain ⟨ag,h⟩:=Au h
  obtain ⟨o9,av,D,v⟩:=D.append (P:=Tryz.prog) Wv (by rw [N6];rfl) (by decide) 1 ag.1 ag.2
  replace v:=fun (ys:List AV) B L o2=>v (a2.map (Jc AK)) ys B L o2 D6
  replace v:=fun (y:AV) B L o2=>v [y] B L o2 D6 (by simp +decide only [go_sem,Nat.reduceAdd])
  try simp only [List.mem_singleton,List.mem_cons,List.not_mem_nil,or_false,forall_eq_or_imp,forall_eq,List.map_append,List.map_cons,List.map_nil,GE,GA,Gj,EQ,EO,F7,Dp,Ek,Ge,CP,CJ,EF,Ez,Et,Gi,Ew,F5] at v
  have hs:=Ae v hs
  apply An;intro K6 ao
  refine dk 4 2 1 [] hs PH ?_
  refine Aw _ (Q4 w0 _ _ _ a1 a4) (hv hs) ?_
  refine dn hs ao ?_
  clear ao
  apply A1;simp +decide only [go_sem,Nat.reduceAdd,Ar g,Ar c,Bd c b,x,v]
  have hgt:=Option.some.inj h;subst hgt
  have hU:=D.unders
  simp only [List.mem_cons,List.not_mem_nil,or_false,forall_eq_or_imp,forall_eq] at hU
  refine Za D (CO (MO E D.len) ow) Y6 ev ⟨?_,_,_,?_,(D.sub (List.sublist_append_left [_] _)).len1 D6⟩
  all_goals first | rfl | (simp +decide only [go_sem,Nat.reduceAdd,Ar g,Ar c,Bd c b,x,v];done) | (simp +decide only [go_sem,Nat.reduceAdd,Vl.cs,Ty.cs,Ar g,Ar c,Bd c b,x,v];done)
 have x:=hs.1
 refine sk [1,3,4] hs ah ?_
 clear ah
 obtain ⟨F,ai,h⟩:=bind_some h
 refine rc 2 [1,3,4,19,20,21] hs ?_;intro K12 Y
 refine Aw _ (O7 w0 n _ _ _ a0 _ ai) (hv hs) ?_
 refine ne hs Y ?_
 clear Y
 apply Aq
 refine AC (fun m e st=>∃ (t:Int) (z:List (List Part)) (C:Ev.Own) (Xl14:Ao) (Rl14:Av),e=[(1,true,.list (a1.map AK) .none),(3,true,.box K 0),(4,true,.box B.length 0),(19,true,.list (F.map J1) .none),(20,true,Am (F.length:Int)),(21,true,Am t)]∧st=⟨(B.set H ([.list (z.map (Jc AK)) C]))++([a0.cs]++Xl14),Rl14,L⟩∧Owns Rw Rl14 [(1,z.length,C)] ad∧BE rec n a0 a1 F m t z=some r) n ⟨0,a2,ad,([]),Rw,ef hs,ef hs,Owns.of_eq (D) D6,h⟩ ?_
 rintro ml14 e st ⟨t,z,C,Xl14,Rl14,rfl,rfl,D,h⟩ Ul14 Vl14
 cases ml14 with
 | zero=>cases h
 | succ ml14 =>
 rw [BE] at h
 have hU:=D.unders
 simp only [List.mem_cons,List.not_mem_nil,or_false,forall_eq_or_imp,forall_eq] at hU
 refine Oo hN O J Y6 (CO (MO E D.len) ow) D ow ow ?_
 refine rg [1,3,4,19,20,21,22] hs ?_
 apply An;intro K16 Z
 refine BQ h hs ?_ ?_<;>intro hs h
 rotate_left
 ·have p:=hs.1
  refine P4 (ED [] _) ?_ (FM _ _)
  apply Ks;simp +decide only [go_sem,Nat.reduceAdd]
  (repeat' with_reducible apply Ae)<;>first | exact cl | skip
  have hgt:=Option.some.inj h;subst hgt
  have hU:=D.unders
  simp only [List.mem_cons,List.not_mem_nil,or_false,forall_eq_or_imp,forall_eq] at hU
  refine Za D (CO (MO E D.len) ow) Y6 ev ⟨?_,_,_,?_,(D.sub (List.sublist_append_left [_] _)).len1 D6⟩
  all_goals first | rfl | (simp +decide only [go_sem,Nat.reduceAdd,Ar g,Ar c,Bd c b,x,p];done) | (simp +decide only [go_sem,Nat.reduceAdd,Vl.cs,Ty.cs,Ar g,Ar c,Bd c b,x,p];done)
 have p:=hs.1
 refine sk [1,3,4,19,20,21] hs Z ?_
 clear Z
 apply An;intro K18 aa
 apply Aq
 obtain ⟨G,ae,h⟩:=bind_some h
 obtain ⟨ay,ax,ab⟩:=Bi ae
 have j:=Bj (f:=J1) ab
 have hs:=Ae j hs
 refine rg [1,3,4,6,7,19,20,21] hs ?_
 refine rg [1,3,4,6,7,8,19,20,21] hs ?_
 refine AB (fun e st=>∃ (o:Int) (l:ByteArray) (u:List (List Part)) (w:Ev.Own) (Xk23:Ao) (Rk23:Av),e=[(1,true,.list (a1.map AK) .none),(3,true,.box K 0),(4,true,.box B.length 0),(7,true,.box (B.length+1) 0),(8,true,.box (B.length+2) 0),(19,true,.list (F.map J1) .none),(20,true,Am (F.length:Int)),(21,true,Am t)]∧st=⟨(B.set H ([.list (u.map (Jc AK)) w]))++([a0.cs,G.cs,[Am o,Am 0,.val (.string l)]]++Xk23),Rk23,L⟩∧Owns Rw Rk23 [(1,u.length,w)] ad∧DW rec n (BE rec n a0 a1 F ml14) a1 t G o l u=some r) ?_ ?_
 ·intro K24 af
  exact go (tg (a:=([1,3,4,6,7,8,19,20,21,28],[1,3,4,6,7,8,19,20,21,28,29],([1,3,4,7,8,19,20,21],()),[1,3,4,6,7,8,19,20,21,38],([1,3,4,7,8,19,20,21],()),[1,3,4,7,8,19,20,21],()))) h hs hN O J E D trivial (q1 af)
 ·clear h;rintro e st ⟨o,l,u,w,Xk23,Rk23,rfl,rfl,D,h⟩
  rw [DW] at h
  have hU:=D.unders
  simp only [List.mem_cons,List.not_mem_nil,or_false,forall_eq_or_imp,forall_eq] at hU
  refine Oo hN O J Y6 (CO (MO E D.len) ow) D ow ow ?_
  obtain ⟨aj,h⟩:=Au h
  have D:=D.clone 3 a1.length
  obtain ⟨Q,h⟩:=Au h
  obtain ⟨az,aw,D,d⟩:=D.append (P:=Tryz.prog) Zat (by rw [Vw];rfl) (by decide) 1 Q.1 Q.2
  replace d:=fun (ys:List AV) B L o2=>d (a1.map AK) ys B L o2 D6
  replace d:=fun (y:AV) B L o2=>d [y] B L o2 D6 ev
  try simp only [List.mem_singleton,List.mem_cons,List.not_mem_nil,or_false,forall_eq_or_imp,forall_eq,List.map_append,List.map_cons,List.map_nil,GE,GA,Gj,EQ,EO,F7,Dp,Ek,Ge,CP,CJ,EF,Ez,Et,Gi,Ew,F5] at d
  have D:=D.swap (List.Perm.swap _ _ _)
  obtain ⟨ak,aq,h⟩:=bind_some h
  apply YE PH [3,6,7] [1,3,4,19,20,21] kr (fun s=>∃ (X:Ao) (rows:Av) (U:List AV),s=⟨(B.set H U)++([a0.cs,G.cs,[Am o,Am 0,.val (.string l)]]++X),rows,L⟩) 4 (B.length+3)
  ·simp +decide only [go_sem,Nat.reduceAdd]
  ·rintro s ⟨X,rows,U,rfl⟩
   refine ⟨1,?_⟩
   rw [Ap];simp +decide only [go_sem,Nat.reduceAdd,Dk,Ar g,Ar c,Bd c b,x,p,j,d]
   (repeat' apply Ae)<;>first | rfl | exact cl
  ·refine Good.mk [3] kr ⟨[],_,_,by first | rfl | simp only [List.append_nil,List.nil_append]⟩ ?_ ?_
   ·intro h;exact absurd h (by decide)
   ·intro i hi;simp only [List.mem_cons,List.not_mem_nil,or_false] at hi
    subst hi
    ·apply Ec rfl rfl ev
     ·simp +decide only [go_sem,Nat.reduceAdd,E7,Ar g,Ar c,Bd c b,x,p,j,d]
      have hs:=Ae d hs
      (repeat' with_reducible apply Ae)<;>first | exact Qs (PV w0 _ _ _ a1 aj) (hv hs) | rfl | exact cl
     ·simp +decide only [go_sem,Nat.reduceAdd,Ar g,Ar c,Bd c b,x,p,j,d]
      refine Good.mk [6] kr ⟨[],_,_,by first | rfl | simp only [List.append_nil,List.nil_append]⟩ ?_ ?_
      ·intro h;exact absurd h (by decide)
      ·intro i hi;simp only [List.mem_cons,List.not_mem_nil,or_false] at hi
       subst hi
       ·apply Ec rfl rfl ev
        ·simp +decide only [go_sem,Nat.reduceAdd,E7,Ar g,Ar c,Bd c b,x,p,j,d]
         (repeat' apply Ae)<;>first | rfl | exact cl
        ·simp +decide only [go_sem,Nat.reduceAdd,Ar g,Ar c,Bd c b,x,p,j,d]
         refine Good.mk [7] kr ⟨[],_,_,by first | rfl | simp only [List.append_nil,List.nil_append]⟩ ?_ ?_
         ·intro h;exact absurd h (by decide)
         ·intro i hi;simp only [List.mem_cons,List.not_mem_nil,or_false] at hi
          subst hi
          ·apply Zs rfl rfl ev rfl
           ·simp +decide only [go_sem,Nat.reduceAdd,Ar g,Ar c,Bd c b,x,p,j,d]
           ·simp +decide only [go_sem,Nat.reduceAdd,Ar g,Ar c,Bd c b,x,p,j,d]
           ·simp +decide only [go_sem,Nat.reduceAdd,Ar g,Ar c,Bd c b,x,p,j,d]
            have hs:=Ae d hs
            exact (ih _ _ _ G (a1++([Part.mk o 0 l])) H u w (ef hs) D.enter K (ef hs) _ aq).pub (hv hs)
           ·rintro _ _ ⟨rfl,Rg39,V,rfl,N⟩
            have D:=D.call N
            simp +decide only [go_sem,Nat.reduceAdd,Ar g,Ar c,Bd c b,x,p,j,d]
            refine Good.mk [] kr ⟨[],_,_,by first | rfl | simp only [List.append_nil,List.nil_append]⟩ ?_ ?_
            ·intro _;refine ⟨_,_,QF [1,3,4,19,20,21] (by first | (simp +decide only [go_sem,Nat.reduceAdd,Ar g,Ar c,Bd c b,x,p,j,d];done) | (simp +decide only [go_sem,Nat.reduceAdd,Ar g,Ar c,Bd c b,x,p,j,d];rfl)),?_⟩
             simp +decide only [go_sem,Nat.reduceAdd,Ar g,Ar c,Bd c b,x,p,j,d]
             (repeat' apply Ae)<;>first | refine aa _ _ ?_ | exact cl
             clear aa
             obtain ⟨a5,h⟩:=Au h
             have hs:=Ae d hs
             refine rl [1,3,4,19,20,21] hs (fun e s=>Vl14 ml14 e s (Nat.lt_succ_self _)) ?_
             exact ⟨(t+1),ak,V,([G.cs,[Am o,Am 0,.val (.string l)]]),Rg39,ef hs,ef hs,Owns.of_eq ((D).sub (List.sublist_append_left [(1,ak.length,V)] [(3,a1.length+1,az)])) D6,h⟩
            ·intro i hi;cases hi
theorem OH (w0:World):∀ n:Nat,MY w0 (E2 n)
 | 0=>fun _ _ _ _ _ _ _ _ _ _ _ _ _ h=>(nomatch h)
 | n+1=>R2 w0 (E2 n) (OH w0 n) n
theorem TI {α:Type} {l:List α} {k:Nat} {x:α} (h:l[k]? = some x):Cb l (k:Int)=some x:=by
 obtain ⟨a,rfl⟩:=Ak.1 h
 exact AH a
theorem Za7 {α:Type} (t:Ty) (i:Nat) {q:Ty × Part} (hq:(BC t)[i]? = some q) (K:Ty→Int→ByteArray→Option α) :
  ((Cb (IL t) (i:Int)).bind fun x=>if decide (t.kind=9)=true then (Cb t.fields (i:Int)).bind fun f=>K x 1 f.2.1 else if decide (t.kind=10)=true then (Cb t.fields (i:Int)).bind fun f=>K x 4 f.2.1 else K x 3 ⟨#[]⟩)=K q.1 q.2.kind q.2.name∧q.2=Part.mk q.2.kind 0 q.2.name:=by
 have b:Cb (IL t) (i:Int)=some q.1:=TI (by rw [←Pe,List.getElem?_map,hq];rfl)
 rw [b,Af]
 unfold BC at hq
 by_cases h8:t.kind=8
 ·rw [Ai h8,List.getElem?_map] at hq
  obtain ⟨e,_,rfl⟩:=Option.map_eq_some_iff.1 hq
  rw [Ac,Ac]
  exact ⟨rfl,rfl⟩
 rw [Aj h8] at hq
 by_cases h9:t.kind=9
 ·rw [Ai h9,List.getElem?_map] at hq
  obtain ⟨e,a,rfl⟩:=Option.map_eq_some_iff.1 hq
  rw [Ah h9,Ai rfl,TI a,Af]
  exact ⟨rfl,rfl⟩
 rw [Aj h9] at hq
 by_cases h10:t.kind=10
 ·rw [Ai h10,List.getElem?_map] at hq
  obtain ⟨e,a,rfl⟩:=Option.map_eq_some_iff.1 hq
  rw [Ag h9,Aj (by decide),Ah h10,Ai rfl,TI a,Af]
  exact ⟨rfl,rfl⟩
 rw [Aj h10] at hq
 simp at hq
theorem Zay (rec:Ty→List Part→List (List Part)→Option (List (List Part))) (n:Nat) (t:Ty) (b:List Part) (hb:b.length≤100) (f:Ty × Part→List (List Part)) (hl:∀ q∈BC t,(f q).length≤q.1.size)
  (hr:∀ q∈BC t,∀ out:List (List Part),out.length+q.1.size≤100000→rec q.1 (b++[q.2]) out=some (out++f q)):∀ (k m i:Nat) (out:List (List Part)),i+k=(BC t).length→k<m→(BC t).length≤1000→out.length+(((BC t).drop i).map fun q=>q.1.size).sum≤100000 →
  BE rec n t b (IL t) m i out=some (out++((BC t).drop i).flatMap f)
 | k,0,i,_,_,h,_,_=>absurd h (Nat.not_lt_zero _)
 | 0,m+1,i,out,hi,_,_,_=>by
  rw [BE,AD,Ag (by rw [←OQ];omega),Aj (by decide),List.drop_of_length_le (by omega),List.flatMap_nil,List.append_nil]
 | k+1,m+1,i,out,hi,hm,hi2,ho=>by
  have a:i<(BC t).length:=by omega
  have d:=List.getElem?_eq_getElem a
  obtain ⟨q,hqe⟩:∃ q,(BC t)[i]=q:=⟨_,rfl⟩
  have c:q∈BC t:=hqe▸List.getElem_mem a
  rw [List.drop_eq_getElem_cons a,hqe] at ho ⊢
  rw [List.map_cons,List.sum_cons] at ho
  rw [hqe] at d
  have g:=hr q c out (by omega)
  have l:=hl q c
  have ih:=Zay rec n t b hb f hl hr k m (i+1) (out++f q) (by omega) (by omega) hi2 (by rw [List.length_append];omega)
  obtain ⟨g1,g2⟩:=Za7 t i d (fun x j e=>DW rec n (BE rec n t b (IL t) m) b i x j e out)
  rw [BE,AD,Ah (by rw [←OQ];exact a),Ai rfl]
  refine g1.trans ?_
  rw [DW,Ab,Ab]
  rw [←g2,g,Af,Ai (AG (by omega))]
  rw [show ((i:Int)+1)=((i+1:Nat):Int) from by omega,ih,List.flatMap_cons,List.append_assoc]
theorem RE:∀ (n:Nat) (t:Ty) (b:List Part) (out:List (List Part)),t.size<n→b.length+t.depth≤100→t.size≤1000→out.length+t.size≤100000→E2 n t b out=some (out++lvs n t b)
 | 0,t,b,out,h,_,_,_=>absurd h (Nat.not_lt_zero _)
 | n+1,t,b,out,hn,hb,ht,ho=>by
  have j:=t.size_pos
  have g:=t.lens
  have hd:=t.depth_eq
  have e:(BC t).length<t.size:=by
   have:=O2 t
   have f:(BC t).length≤((BC t).map fun q=>q.1.size).sum:=by
    generalize BC t=l
    induction l with
    | nil=>simp
    | cons x l ih =>
     have:=x.1.size_pos
     rw [List.map_cons,List.sum_cons,List.length_cons];omega
   omega
  rw [E2,J5,Vd n t (by omega) (by omega),Af,Af,lvs,←OQ]
  by_cases h0:(BC t).length=0
  ·rw [Ad,Ai rfl,Ai h0,Ab,Ab]
  ·rw [Ac,Aj (by decide),Aj h0]
   have:=Zay (E2 n) n t b (by omega) (fun q=>lvs n q.1 (b++[q.2])) (fun q _=>WH n q.1 _) (fun q d a c=>by
    have i:=XC d
    have f:=Qi d
    exact RE n q.1 (b++[q.2]) a (by omega) (by simp only [List.length_append,List.length_cons,List.length_nil];omega) (by omega) c) (BC t).length n 0 out (by omega) (by omega) (by omega) (by have:=O2 t;rw [List.drop_zero];omega)
   rw [List.drop_zero] at this
   exact this
theorem Leads.small {t x:Ty} {l:List Part} (h:Leads t l x):t.small→x.small:=by
 induction h with
 | nil=>exact id
 | cons h _ ih=>exact fun a=>ih (Wn a h)
theorem SY (n:Nat) (t:Ty) (w:ByteArray) (hn:t.size+1450000≤n) (ht:t.small) (hk:t.kind=9∨t.kind=10):ID n t w=some ((LG t w).getD ZG,(LG t w).isSome):=by
 have c:ID n t w=(Ju n t (fun x=>some (Gn x.2.1 w))).bind fun b=>some (b.1,b.2):=rfl
 have a:LG t w=Cb t.fields (Ox (fun x:TF=>Gn x.2.1 w) t.fields 0):=Zdy _ _
 rw [c]
 rcases Zga n t (fun x=>Gn x.2.1 w) hn ht with ⟨k1,k2,_⟩ | ⟨_,⟨q1,q2⟩ | ⟨j,hj,q1,q2⟩⟩
 ·omega
 ·rw [q2,a,q1];rfl
 ·rw [q2,a,q1,AH hj];rfl
theorem YV (rec:Ty→Vl→Option Bool) (d n:Nat) (t:Ty) (v:Vl) (hn:t.size+1450000≤n) (hn2:v.size<n) (hs:v.size≤1000000000) (ht:t.small) (tk:t.kind=9) (vk:v.kind=9)
  (hr:∀ p∈t.fields,∀ q∈v.fields,rec p.2.2.2.1 q.2=some (Nr d p.2.2.2.1 q.2)):∀ (k m i:Nat),i+k=v.fields.length→k<m→HU rec n t v m i=some ((v.fields.drop i).all (Zjf d t) && !(t.fields.any (ZdN v)))
 | k,0,i,_,h=>absurd h (Nat.not_lt_zero _)
 | 0,m+1,i,hi,_=>by
  have f:=t.lens.2
  have g:=ht.1
  have e:=Wg n t.fields (fun x=>Kq n x v) (ZdN v) (fun x _=>by
   obtain ⟨u,j⟩:=Zbl n v x.2.1 vk hs hn2
   rw [Kq,j];rfl) (by omega) (by omega)
  rw [HU,AD,Ac,Aj (by decide),Oj,e,List.drop_eq_nil_of_le (by omega),List.all_nil,Bool.true_and];rfl
 | k+1,m+1,i,hi,hm=>by
  have a:i<v.fields.length:=by omega
  have b:=Om v
  have ih:=YV rec d n t v hn hn2 hs ht tk vk hr k m (i+1) (by omega) (by omega)
  rw [HU,AD,Ah a,Ai rfl,AH a,Af,SY n t _ hn ht (.inl tk),Af,List.drop_eq_getElem_cons a,List.all_cons,Zjf]
  cases c:LG t v.fields[i].1 with
  | none=>rw [Ai (by rfl)];rfl
  | some p =>
   rw [Aj (by simp),Option.getD_some,hr _ (SD c).1 _ (List.getElem_mem a),Af]
   simp only
   cases Nr d p.2.2.2.1 v.fields[i].2 with
   | false=>rfl
   | true =>
    rw [Aj (by decide),Ai (AG (by omega)),Bool.true_and]
    exact ih
theorem Sj:∀ (n d:Nat) (t:Ty) (v:Vl),t.size+1500000≤n→v.size+1500000≤n→v.size≤1000000000→t.small→t.Good→v.Good→t.depth≤d→I5 n t v=some (Nr d t v)
 | 0,d,t,v,h,_,_,_,_,_,_=>by omega
 | n+1,0,t,v,_,_,_,_,_,_,hd=>by have:=t.depth_eq;omega
 | n+1,d+1,t,v,h1,h2,h3,ht,gt,gv,hd=>by
  obtain ⟨F,D,K⟩:=Qv (SE gt)
  obtain ⟨_,H⟩:=Vs (QO gv)
  have J:=t.lens
  have G:=ht.1
  have C:=Ou v
  have E:=(t.ok_eq.1 ht.2.2).1
  rw [I5,Sl,Nr]
  by_cases hk:v.kind=t.kind
  rotate_left
  ·rw [Ag hk,Ai (fun q=>hk q.symm)];rfl
  rw [Ah hk,Aj (show ¬ (t.kind≠v.kind) from fun q=>q hk.symm)]
  simp only [Bool.not_true,Bool.false_eq_true,if_false]
  have i:t.kind≠3→v.scale=t.scale:=fun q=>by rw [Ty.scale0 D q,Vl.scale0 H (by rw [hk];exact q)]
  rcases Hy F with tk | tk | tk | tk | tk | tk | tk | tk | tk | tk
  ·simp [tk,B8,Qe]
  ·have q:=i (by omega);simp [tk,B8,q]
  ·simp [tk,B8,Bool.and_comm]
  ·have l:=W8 n t.words v.text (by omega) (by omega)
   have k:(t.words.any fun x=>Gn v.text x)=t.words.any fun x=>Gn x v.text:=by congr 1;funext x;exact ZbW _ _
   rw [Ag (show ¬ t.kind=2 by omega),Ag (show ¬ t.kind=6 by omega),Ag (show ¬ t.kind=7 by omega),Ag (show ¬ t.kind=3 by omega)]
   simp only [Bool.false_eq_true,if_false]
   rw [B8,Aj (by decide),Ah tk,Ai rfl,Aj (show ¬ (t.kind=2∨t.kind=6∨t.kind=7) by omega),Aj (show ¬ t.kind=3 by omega),Ai tk]
   by_cases E:0<t.words.length
   ·rw [Ai (Ah (by omega)),l,k,Ag (show ¬ (t.words.length:Int)=0 by omega)]
    simp
   ·rw [Aj (by rw [decide_eq_true_eq];omega),Ah (show (t.words.length:Int)=0 by omega)]
    have m:t.words=[]:=List.length_eq_zero_iff.1 (by omega)
    rw [m]
    rfl
  ·simp [tk,B8,Ys]
  ·have q:=i (by omega);simp [tk,B8,q]
  ·have q:=i (by omega);simp [tk,B8,q]
  ·obtain ⟨e,o⟩:=gt.own.elem tk
   have f:e∈t.elem:=by rw [o];simp
   have r:Cb t.elem 0=some e:=by rw [o];rfl
   have l:=Wm n v.list (fun x=>Kp (I5 n) x t) (fun x => !Nr d e x) (fun x j=>by
    have a:=t.elem_size _ f
    have b:=v.list_size x j
    have c:=Ty.depth_elem f
    rw [Kp,r,Af,Sj n d e x (by omega) (by omega) (by omega) (Ty.small_elem ht f) (Oq gt f) (O9 gv (by rw [BK,Ai (.inl (by omega))];exact j)) (by omega)];rfl) (by omega) (by omega)
   have k:(v.list.all fun x=>t.elem.all fun e=>Nr d e x)=v.list.all fun x=>Nr d e x:=by
    congr 1;funext x;rw [o];simp
   rw [k]
   simp only [tk,B8]
   simp only [show decide ((8:Int)=2)=false from rfl,show decide ((8:Int)=6)=false from rfl,show decide ((8:Int)=7)=false from rfl,show decide ((8:Int)=3)=false from rfl,show decide ((8:Int)=4)=false from rfl,show decide ((8:Int)=5)=false from rfl,decide_true,Bool.false_eq_true,if_false,if_true]
   rw [l]
   unfold Ys
   cases hr:decide (t.min≤(v.list.length:Int))&&decide ((v.list.length:Int)≤t.max) with
   | false=>simp
   | true =>
    simp only [if_true,Af,Bool.and_true]
    rw [List.not_any_eq_all_not]
    simp
  ·have y:=YV (I5 n) d n t v (by omega) (by omega) h3 ht tk (by omega) (fun p g q w=>by
     have a:=t.field_size p g
     have b:=v.field_size q w
     have c:=Ty.depth_field g
     exact Sj n d _ _ (by omega) (by omega) (by omega) (Ty.small_field ht g) (HF gt g) (O9 gv (by rw [BK,Aa,Ab];exact List.mem_map_of_mem w)) (by omega)) v.fields.length n 0 (by omega) (by omega)
   rw [List.drop_zero] at y
   have s:HU (I5 n) n t v n 0=_:=y
   simp only [tk,B8]
   simp only [show decide ((9:Int)=2)=false from rfl,show decide ((9:Int)=6)=false from rfl,show decide ((9:Int)=7)=false from rfl,show decide ((9:Int)=3)=false from rfl,show decide ((9:Int)=4)=false from rfl,show decide ((9:Int)=5)=false from rfl,show decide ((9:Int)=8)=false from rfl,show decide ((9:Int)=10)=false from rfl,decide_true,Bool.false_eq_true,if_false,if_true]
   exact s
  ·have u:v.kind=10:=by omega
   obtain ⟨x,j⟩:=ZaT gv u
   have e:B8 (I5 n) n t v false=some (match LG t v.text with
    | some p=>v.list.all fun x=>Nr d p.2.2.2.1 x
    | none=>false):=by
    simp only [B8,tk,SY n t _ (show t.size+1450000≤n by omega) ht (.inr tk),Af]
    simp only [show decide ((10:Int)=4)=false from rfl,show decide ((10:Int)=5)=false from rfl,show decide ((10:Int)=8)=false from rfl,decide_true,Bool.false_eq_true,if_false,if_true]
    cases c:LG t v.text with
    | none=>rfl
    | some p =>
     have g:=(SD c).1
     have a:=t.field_size _ g
     have b:=v.list_size x (by rw [j];simp)
     have c:=Ty.depth_field g
     have z:=Sj n d p.2.2.2.1 x (by omega) (by omega) (by omega) (Ty.small_field ht g) (HF gt g) (O9 gv (by rw [BK,Ai (.inr u),j];simp)) (by omega)
     rw [j,Ai (by rfl),show Cb [x] 0=some x from rfl,Af]
     simp [z]
   simp only [tk]
   exact e
theorem Zfj (n:Nat) (t:Ty) (v:Vl) (h1:t.size+1500000≤n) (h2:v.size+1500000≤n) (h3:v.size<1048576) (ht:t.small) (hv:v.ok) (gt:t.Good):Jk n t v=some (decide (Tn v=0)&&Nr 12 t v):=by
 rw [Jk,V5 n v (by omega) h3 hv,Af]
 by_cases h:Tn v=0
 ·rw [Ah h,Ai rfl,Sj n 12 t v h1 h2 (by omega) ht gt (XO h) ht.2.1];rfl
 ·rw [Ag h,Aj (by decide)];rfl
def ZaL (P:Prop) (left:Int) (o:Option (Int × Int)):Prop:=∃ e l,o=some (e,l)∧(e=0→0≤l∧l≤left∧P)
theorem Zao (r:Ty→Int→Int→Option (Int × Int)) (n D:Nat) (t:Ty) (lv:Int) (hlv:0≤lv∧lv≤9) (hn:t.size+2600000≤n) (ht:t.small) (hk:t.kind=9∨t.kind=10) (hg:∀ x∈t.fields,UG t.kind x)
  (hr:∀ p∈t.fields,∀ left,0≤left→left≤4096→ZaL (p.2.2.2.1.Fine D) left (r p.2.2.2.1 (lv+1) left)):∀ (k m i:Nat) (left:Int),i+k=t.fields.length→k<m→0≤left→left≤4096 →
  ZaL (∀ p∈t.fields.drop i,p.2.2.2.1.Fine D∧∀ v∈p.2.2.2.2,Tn v=0∧Nr 12 p.2.2.2.1 v=true) left (B7 r n t lv (t.fields.map fun p=>p.2.2.2.1) m i left)
 | k,0,i,_,_,h,_,_=>absurd h (Nat.not_lt_zero _)
 | 0,m+1,i,left,hi,_,h1,h2=>by
  rw [B7,AD,Ag (show ¬ i<(t.fields.map fun p=>p.2.2.2.1).length by rw [List.length_map];omega)]
  refine ⟨0,left,rfl,fun _=>⟨h1,Int.le_refl _,?_⟩⟩
  rw [List.drop_eq_nil_of_le (by omega)];simp
 | k+1,m+1,i,left,hi,hm,h1,h2=>by
  have d:i<t.fields.length:=by omega
  have c:=List.getElem_mem d
  have H:=ht.1
  have O:=t.lens
  have f:i<(t.fields.map fun p=>p.2.2.2.1).length:=by rw [List.length_map];exact d
  rw [B7,AD,Ah f]
  simp only [if_true,AH f,AH d,Af,List.getElem_map]
  rw [Ai (by unfold A6;omega)]
  obtain ⟨e,l,C,y⟩:=hr _ c left h1 h2
  rw [C,Af]
  by_cases h0:e=0
  rotate_left
  ·rw [Ag h0]
   exact ⟨e,l,rfl,fun q=>absurd q h0⟩
  obtain ⟨s,Y,o⟩:=y h0
  rw [Ah h0]
  simp only [Bool.not_true,Bool.false_eq_true,if_false]
  rw [Ai (AG (by omega))]
  obtain ⟨J,F,q1,q3⟩:=Zao r n D t lv hlv hn ht hk hg hr k m (i+1) l (by omega) (by omega) s (by omega)
  have fin:(∀ v∈t.fields[i].2.2.2.2,Tn v=0∧Nr 12 t.fields[i].2.2.2.1 v=true)→ZaL (∀ p∈t.fields.drop i,p.2.2.2.1.Fine D∧∀ v∈p.2.2.2.2,Tn v=0∧Nr 12 p.2.2.2.1 v=true) left (B7 r n t lv (t.fields.map fun p=>p.2.2.2.1) m ((i:Int)+1) l):=fun hd=>by
   refine ⟨J,F,q1,fun q=>?_⟩
   obtain ⟨G,V,E⟩:=q3 q
   refine ⟨G,by omega,fun x hx=>?_⟩
   rw [List.drop_eq_getElem_cons d] at hx
   rcases List.mem_cons.1 hx with rfl | hx
   ·exact ⟨o,hd⟩
   ·exact E x hx
  obtain ⟨g1,g2,g3,g4⟩:=hg _ c
  by_cases n3:t.fields[i].2.2.1=3
  ·have z:t.kind=9:=by
    rcases hk with hk | hk
    ·exact hk
    ·have:=g2 hk;omega
   obtain ⟨v,hv⟩:=List.length_eq_one_iff.1 (g3 n3)
   have j:Cb t.fields[i].2.2.2.2 0=some v:=by rw [hv];rfl
   obtain ⟨_,Q,N,u⟩:=(t.ok_eq.1 ht.2.2).2.2.2 _ c
   obtain ⟨U,Z,K⟩:=u v (by rw [hv];simp)
   have a:=t.field_size _ c
   have g:=Zfj n t.fields[i].2.2.2.1 v (by omega) (by omega) (by omega) (Ty.small_field ht c) K o.good
   rw [Ah z,Ah n3]
   simp only [if_true,j,Af,g]
   cases b:decide (Tn v=0)&&Nr 12 t.fields[i].2.2.2.1 v with
   | false=>exact ⟨18,l,rfl,fun q=>absurd q (by decide)⟩
   | true =>
    rw [Bool.and_eq_true,decide_eq_true_eq] at b
    exact fin fun w hw=>by rw [hv,List.mem_singleton] at hw;subst hw;exact b
  ·have hd:t.fields[i].2.2.2.2=[]:=List.length_eq_zero_iff.1 (g4 n3)
   rw [Ag n3]
   simp only [Bool.false_eq_true,if_false,ite_self]
   exact fin fun w hw=>by rw [hd] at hw;simp at hw
theorem MF:∀ (n D:Nat) (t:Ty) (lv left:Int),t.size+2600001≤n→t.small→lv=9-(D:Int)→0≤lv→0≤left→left≤4096→ZaL (t.Fine D) left (IP n t lv left)
 | 0,D,t,_,_,h,_,_,_,_,_=>by omega
 | n+1,D,t,lv,left,h,ht,hD,l1,h1,h2=>by
  have F:=t.lens
  have E:=ht.1
  have c:=Ty.fit_of ht (show t.size+2600000≤n by omega)
  rw [IP,On]
  by_cases c1:left=0
  ·rw [Ah c1]
   exact ⟨9,left,rfl,fun q=>absurd q (by decide)⟩
  rw [Ag c1]
  simp only [Bool.false_eq_true,if_false]
  have v:A6 (left-1):=by unfold A6;omega
  by_cases c2:8<lv
  ·rw [Ah c2]
   exact ⟨23,left,rfl,fun q=>absurd q (by decide)⟩
  obtain ⟨d,rfl⟩:∃ d,D=d+1:=⟨D-1,by omega⟩
  rw [Ag c2]
  simp only [Bool.false_eq_true,if_false,Ai v]
  rw [Zfr n t c,Af]
  by_cases c3:PZ t=0
  rotate_left
  ·rw [Ag c3]
   exact ⟨PZ t,left-1,rfl,fun q=>absurd q c3⟩
  obtain ⟨H,x,s,o,G,C⟩:=TV c3
  rw [Ah c3]
  simp only [Bool.not_true,Bool.false_eq_true,if_false]
  rw [Vd n t (by omega) (by omega),Af]
  by_cases k8:t.kind=8
  ·obtain ⟨w,_,_⟩:=s k8
   obtain ⟨e,he⟩:∃ e,t.elem=[e]:=List.length_eq_one_iff.1 w
   have l:e∈t.elem:=by rw [he];simp
   have z:=t.elem_size e l
   obtain ⟨n',rfl⟩:∃ k,n=k+2:=⟨n-2,by omega⟩
   obtain ⟨g,i,q1,q3⟩:=MF (n'+2) d e (lv+1) (left-1) (by omega) (Ty.small_elem ht l) (by omega) (by omega) (by omega) (by omega)
   have hf0:t.fields=[]:=List.length_eq_zero_iff.1 (o (by omega) (by omega))
   have j:A6 (lv+1):=by unfold A6;omega
   rw [IL,Ai k8,he,B7,Ai (by simp),show Cb [e] 0=some e from rfl,Af,Ai j,q1,Af]
   by_cases c4:g=0
   ·obtain ⟨f,u,w4⟩:=q3 c4
    subst c4
    rw [Ag (show ¬ t.kind=9 by omega)]
    simp only [decide_true,Bool.not_true,Bool.false_eq_true,if_false]
    rw [Ai (by decide),B7,Aj (by simp)]
    refine ⟨0,i,rfl,fun _=>⟨f,by omega,?_⟩⟩
    exact .mk d t c3 (fun y hy=>by rw [he,List.mem_singleton] at hy;subst hy;exact w4) (fun y hy=>by rw [hf0] at hy;simp at hy) (fun y hy=>by rw [hf0] at hy;simp at hy)
   ·rw [Ag c4]
    exact ⟨g,i,rfl,fun q=>absurd q c4⟩
  ·rw [IL,Aj k8]
   have b:t.elem=[]:=List.length_eq_zero_iff.1 (x k8)
   by_cases k9:t.kind=9∨t.kind=10
   ·rw [Ai k9]
    obtain ⟨g,i,q1,q3⟩:=Zao (IP n) n d t lv ⟨l1,by omega⟩ (by omega) ht k9 C (fun p m a r f=>by
     have:=t.field_size p m
     exact MF n d p.2.2.2.1 (lv+1) a (by omega) (Ty.small_field ht m) (by omega) (by omega) r f) t.fields.length n 0 (left-1) (by omega) (by omega) (by omega) (by omega)
    refine ⟨g,i,q1,fun q=>?_⟩
    obtain ⟨f,u,w4⟩:=q3 q
    rw [List.drop_zero] at w4
    exact ⟨f,by omega,.mk d t c3 (fun y hy=>by rw [b] at hy;simp at hy) (fun y hy=>(w4 y hy).1) (fun y hy=>(w4 y hy).2)⟩
   ·rw [Aj k9]
    have hf0:t.fields=[]:=List.length_eq_zero_iff.1 (o (by omega) (by omega))
    obtain ⟨n',rfl⟩:∃ k,n=k+1:=⟨n-1,by omega⟩
    rw [B7,Aj (by simp)]
    exact ⟨0,left-1,rfl,fun _=>⟨by omega,by omega,.mk d t c3 (fun y hy=>by rw [b] at hy;simp at hy) (fun y hy=>by rw [hf0] at hy;simp at hy) (fun y hy=>by rw [hf0] at hy;simp at hy)⟩⟩
theorem Zdz {c:Int} (h:1≤c):1≤(if 4097<c then 4097 else c)∧(if 4097<c then 4097 else c)≤4097:=by split<;>omega
theorem Ss:∀ (n:Nat) (t:Ty),t.size+10≤n→t.small→t.Good→∃ a,C0 n t=some a∧1≤a∧a≤4097
 | 0,t,h,_,_=>by omega
 | n+1,t,h,ht,gt=>by
  have F:=t.lens
  have D:=ht.1
  obtain ⟨Y,N,x,V,z,C⟩:=TV (SE gt)
  rw [C0,I0]
  by_cases k8:t.kind=8
  ·obtain ⟨K,Q,O⟩:=x k8
   have r:Cb t.elem 0=some t.elem[0]:=AH (k:=0) (by omega)
   rw [Ah k8,Ai rfl]
   by_cases l:0<t.min
   ·have f:=List.getElem_mem (show 0<t.elem.length by omega)
    have:=t.elem_size _ f
    obtain ⟨a,j,v,u⟩:=Ss n t.elem[0] (by omega) (Ty.small_elem ht f) (Oq gt f)
    have q1:0≤t.min*a:=Int.mul_nonneg (by omega) (by omega)
    have q2:0≤(256-t.min)*a:=Int.mul_nonneg (by omega) (by omega)
    rw [Int.sub_mul] at q2
    rw [Ah l,Ai rfl,r,Af,j,Af,Ai (by unfold A6;omega),Ai (by unfold A6;omega)]
    exact ⟨_,rfl,Zdz (by omega)⟩
   ·rw [Ag l,Aj (by decide)]
    exact ⟨_,rfl,Zdz (by omega)⟩
  rw [Ag k8,Aj (by decide)]
  by_cases k10:t.kind=10
  ·have s:=z k10
   have d:=List.getElem_mem s
   have:=t.field_size _ d
   obtain ⟨a,j,v,u⟩:=Ss n t.fields[0].2.2.2.1 (by omega) (Ty.small_field ht d) (HF gt d)
   rw [Ah k10,Ai rfl,show Cb t.fields 0=some t.fields[0] from AH (k:=0) s,Af,j,Af,Ai (by unfold A6;omega)]
   exact ⟨_,rfl,Zdz (by omega)⟩
  rw [Ag k10,Aj (by decide)]
  by_cases k9:t.kind=9
  ·rw [Ah k9,Ai rfl]
   have g:∀ (k m i:Nat) (a:Int),i+k=t.fields.length→k<m→1≤a→a≤2000000*(i+1)→∃ a',Bq (C0 n) n t m a i=some a'∧1≤a'∧a'≤4097:=by
    intro k
    induction k with
    | zero =>
     intro m i a w l o _
     obtain ⟨m,rfl⟩:∃ q,m=q+1:=⟨m-1,by omega⟩
     rw [Bq,AD,Ag (show ¬ i<t.fields.length by omega)]
     exact ⟨_,rfl,Zdz o⟩
    | succ k ih =>
     intro m i a w l o G
     obtain ⟨m,rfl⟩:∃ q,m=q+1:=⟨m-1,by omega⟩
     have e:i<t.fields.length:=by omega
     have b:=List.getElem_mem e
     have a1:=t.field_size _ b
     have go:∀ c:Int,1≤c→c≤2000000*((i:Int)+1+1)→∃ a',Dy (C0 n) n (Bq (C0 n) n t m) i c=some a'∧1≤a'∧a'≤4097:=fun c q1 q2=>by
      rw [Dy,Ai (AG (by omega))]
      exact ih m (i+1) c (by omega) (by omega) q1 (by push_cast;exact q2)
     rw [Bq,AD,Ah e,Ai rfl,AH e,Af]
     by_cases n1:t.fields[i].2.2.1=1
     ·obtain ⟨c,j,v,u⟩:=Ss n t.fields[i].2.2.2.1 (by omega) (Ty.small_field ht b) (HF gt b)
      rw [Ah n1,Ai rfl,j,Af,Ai (by unfold A6;omega)]
      exact go _ (by omega) (by omega)
     rw [Ag n1,Aj (by decide)]
     by_cases n3:t.fields[i].2.2.1=3
     ·have hd:=(C _ b).2.2.1 n3
      have p:Cb t.fields[i].2.2.2.2 0=some t.fields[i].2.2.2.2[0]:=AH (k:=0) (by omega)
      obtain ⟨_,H,E,y⟩:=(t.ok_eq.1 ht.2.2).2.2.2 _ b
      obtain ⟨J,v2,Z⟩:=y _ (List.getElem_mem (show 0<t.fields[i].2.2.2.2.length by omega))
      have U:=Px _ t.fields[i].2.2.2.2[0] 1 (Nat.le_refl _)
      rw [Ah n3,Ai rfl,p,Af,Zdu _ (by omega),Af,Ai (by unfold A6;omega)]
      exact go _ (by omega) (by omega)
     ·rw [Ag n3,Aj (by decide)]
      exact go a o (by omega)
   exact g t.fields.length n 0 1 (by omega) (by omega) (by decide) (by decide)
  ·rw [Ag k9,Aj (by decide)]
   exact ⟨_,rfl,Zdz (by omega)⟩
theorem Xv:∀ (n:Nat) (t:Ty),t.size+11≤n→t.small→t.Good→∃ a,B9 n t=some a
 | 0,t,h,_,_=>by omega
 | n+1,t,h,ht,gt=>by
  have r:=t.lens
  have p:=ht.1
  obtain ⟨a,o,_,_⟩:=Ss n t (by omega) ht gt
  have g:∀ (k m i:Nat) (a:Int),i+k=t.fields.length→k<m→∃ a',B5 (B9 n) n t m a i=some a':=by
   intro k
   induction k with
   | zero =>
    intro m i a e f
    obtain ⟨m,rfl⟩:∃ q,m=q+1:=⟨m-1,by omega⟩
    rw [B5,AD,Ag (show ¬ i<t.fields.length by omega)]
    exact ⟨_,rfl⟩
   | succ k ih =>
    intro m i a e f
    obtain ⟨m,rfl⟩:∃ q,m=q+1:=⟨m-1,by omega⟩
    have d:i<t.fields.length:=by omega
    have b:=List.getElem_mem d
    have a1:=t.field_size _ b
    obtain ⟨c,j⟩:=Xv n t.fields[i].2.2.2.1 (by omega) (Ty.small_field ht b) (HF gt b)
    rw [B5,AD,Ah d,Ai rfl,AH d,Af,j,Af,Ai (AG (by omega))]
    exact ih m (i+1) _ (by omega) (by omega)
  have l:∀ (k m i:Nat) (a:Int),i+k=t.elem.length→k<m→∃ a',Cf (B9 n) n t m a i=some a':=by
   intro k
   induction k with
   | zero =>
    intro m i a e f
    obtain ⟨m,rfl⟩:∃ q,m=q+1:=⟨m-1,by omega⟩
    rw [Cf,AD,Ag (show ¬ i<t.elem.length by omega)]
    exact g t.fields.length n 0 a (by omega) (by omega)
   | succ k ih =>
    intro m i a e f
    obtain ⟨m,rfl⟩:∃ q,m=q+1:=⟨m-1,by omega⟩
    have d:i<t.elem.length:=by omega
    have b:=List.getElem_mem d
    have a1:=t.elem_size _ b
    obtain ⟨c,j⟩:=Xv n t.elem[i] (by omega) (Ty.small_elem ht b) (Oq gt b)
    rw [Cf,AD,Ah d,Ai rfl,AH d,Af,j,Af,Ai (AG (by omega))]
    exact ih m (i+1) _ (by omega) (by omega)
  rw [B9,G2,o,Af]
  exact l t.elem.length n 0 a (by omega) (by omega)
theorem Yu (n:Nat) (t:Ty) (hn:3000000≤n) (ht:t.small):∃ c,HT n t=some c∧(c=0→t.Fine 8):=by
 have b:=ht.1
 obtain ⟨e,l,f,d⟩:=MF n 8 t 1 4096 (by omega) ht (by decide) (by decide) (by decide) (by decide)
 rw [HT,f,Af]
 by_cases h:e=0
 ·obtain ⟨_,_,g⟩:=d h
  obtain ⟨a,q1⟩:=Xv n t (by omega) ht g.good
  rw [Ah h,Aj (by decide),q1,Af]
  by_cases c:4096<a
  ·rw [Ah c]
   exact ⟨9,rfl,fun q=>absurd q (by decide)⟩
  ·rw [Ag c]
   exact ⟨0,rfl,fun _=>g⟩
 ·rw [Ag h]
  exact ⟨e,rfl,fun q=>absurd q h⟩
theorem LQ {B:List (List AV)} {l:Nat} {c:List AV} (h:B[l]? = some c):B.set l c=B:=by
 apply List.ext_getElem?
 intro i
 by_cases q:l=i
 ·subst q
  rw [List.getElem?_set_self (Ak.1 h).1,h]
 ·rw [List.getElem?_set_ne q]
@[go_sem] theorem Zjm:EX Tryz.prog 100=none∧JO Tryz.prog 330=false∧CN Tryz.prog 103 0=some (0,1,false)∧CN Tryz.prog 103 1=some (1,1,false)∧CN Tryz.prog 124 0=some (0,1,false)∧CN Tryz.prog 124 2=some (2,7,true)∧CN Tryz.prog 132 0=some (0,1,true)∧CN Tryz.prog 132 1=some (1,7,true)∧Nq Tryz.prog 330=some .u64∧CG Tryz.prog 100=some [(0,1),(1,1)]∧EE Tryz.prog 330=false∧G8 Tryz.prog 101=some (1,false):=by (repeat' apply Ae)<;>kernel_rfl
@[go_sem] theorem Zj7:G8 Tryz.prog 330=some (1,false)∧BB Tryz.prog 100=some [.val (.string ⟨#[]⟩),Am 0]∧BB Tryz.prog 330=some [.val (.int .u64 0)]∧BB Tryz.prog 5=some [.val (.int .u8 0)]:=by (repeat' apply Ae)<;>kernel_rfl
end Go.Proofs.YtmcnjijeocmkgaaGreatDoor
namespace Go.Ev
open Go Go.RowKit
theorem X8 (B:Ao) (i j:Nat) (c d:List AV):((B.set i c).set j d).length=B.length:=by simp only [List.length_set]
@[go_sem] theorem Zip (B X:Ao) (R:Av) (L:As) (i j k o:Nat) (c d:List AV):Du ⟨(B.set i c).set j d++X,R,L⟩ (.box (B.length+k) o)=decide (k<X.length):=by have h:=Zbv ((B.set i c).set j d) X R L k o;rwa [X8] at h
@[go_sem] theorem Zg4 (B X:Ao) (R:Av) (L:As) (i j o:Nat) (c d:List AV):Du ⟨(B.set i c).set j d++X,R,L⟩ (.box B.length o)=decide (0<X.length):=by have h:=Z0 ((B.set i c).set j d) X R L o;rwa [X8] at h
@[go_sem] theorem Zcv (B X:Ao) (i j k:Nat) (c d:List AV):((B.set i c).set j d++X).getD (B.length+k) []=X.getD k []:=by have h:=Vm (B.set i c) X j k d;rwa [List.length_set] at h
@[go_sem] theorem ZbZ (B X:Ao) (i j:Nat) (c d:List AV):((B.set i c).set j d++X).getD B.length []=X.getD 0 []:=by have h:=TY (B.set i c) X j d;rwa [List.length_set] at h
@[go_sem] theorem ZgF (B X:Ao) (R:Av) (L:As) (i j k o:Nat) (c d:List AV):Bc ⟨(B.set i c).set j d++X,R,L⟩ (.box (B.length+k) o)=X.getD k []:=Zcv B X i j k c d
@[go_sem] theorem Zfb (B X:Ao) (R:Av) (L:As) (i j o:Nat) (c d:List AV):Bc ⟨(B.set i c).set j d++X,R,L⟩ (.box B.length o)=X.getD 0 []:=ZbZ B X i j c d
@[go_sem] theorem ZjQ (B X:Ao) (i j k:Nat) (c d x:List AV):((B.set i c).set j d++X).set (B.length+k) x=(B.set i c).set j d++X.set k x:=by have h:=ZcW (B.set i c) X j k d x;rwa [List.length_set] at h
@[go_sem] theorem ZiR (B X:Ao) (i j:Nat) (c d x:List AV):((B.set i c).set j d++X).set B.length x=(B.set i c).set j d++X.set 0 x:=by have h:=ZaX (B.set i c) X j d x;rwa [List.length_set] at h
@[go_sem] theorem ZjK (B X:Ao) (i j k:Nat) (c d:List AV):((B.set i c).set j d++X)[B.length+k]? = X[k]? := by have h:=Em (B.set i c) X j k d;rwa [List.length_set] at h
@[go_sem] theorem Zjp (B X:Ao) (i j:Nat) (c d:List AV):((B.set i c).set j d++X)[B.length]? = X[0]? := by have h:=Dj (B.set i c) X j d;rwa [List.length_set] at h
theorem Ep {P:Program} {w0:World} {st:St} {d:Bool} {fv:AV} {args:List AV} {k:AV→St→Prop} (h:k (.val (.bool false)) st):JV P w0 false d fv args st k := .inl ⟨.val (.bool false),fun q=>(nomatch q),h⟩
end Go.Ev
namespace Go.Proofs.YtmcnjijeocmkgaaGreatDoor
open Go Go.RowKit Go.Ev
def CY (n:Nat) (g:List Part) (b:List Part):Option Bool :=
 if decide ((b.length:Int)≤(g.length:Int)) then
  if 0≤0∧0≤(b.length:Int)∧(b.length:Int)≤(g.length:Int) then
   (Eg n (g.take b.length) b).bind fun h =>
   some (h)
  else none
 else
  some (false)
theorem Dh (w0:World) (n:Nat) (B:Ao) (Rw:Av) (L:As) (a0:List Part) (a1:List Part) (r:Bool) (h:CY n a0 a1=some r) :
  ACalls Tryz.prog w0 90 [.list (a0.map AK) .none,.list (a1.map AK) .none] ⟨B,Rw,L⟩ fun x st=>x = .val (.bool r)∧st=⟨B,Rw,L⟩:=by
 rw [CY] at h
 refine hd [.tmp 4] Tryz.func90 Tryz.ntmps90 fun M0 W0 f c d b g e hs=>?_
 simp only [AA]
 exact go (tg (a:=([0,1],([4],()),[4],()))) h hs f c d b e (q1 (LO w0 n)) trivial
def AY (b:Part) (g:Part):Bool :=
 ((decide (b.kind=g.kind)&&(decide (b.index=g.index)&&(Gn b.name g.name)))||((decide (b.kind=3))&&(decide (g.kind=2))))||((decide (b.kind=2))&&(decide (g.kind=3)))
theorem RQ (w0:World) (B:Ao) (Rw:Av) (L:As) (a0:Part) (a1:Part) (r:Bool) (h:AY a0 a1=r) :
  ACalls Tryz.prog w0 178 [.agg (Am a0.kind::(Am a0.index::([.val (.string a0.name)]))),.agg (Am a1.kind::(Am a1.index::([.val (.string a1.name)])))] ⟨B,Rw,L⟩ fun x st=>x = .val (.bool r)∧st=⟨B,Rw,L⟩:=by
 rw [AY] at h
 refine hd [.tmp 4] Tryz.func178 Tryz.ntmps178 fun M0 W0 e b c a f d hs=>?_
 simp only [AA]
 refine rg [2,3] hs ?_
 refine rg [4] hs ?_
 exact rT h hs a d
theorem QI (w0:World) (B:Ao) (Rw:Av) (L:As) (a0:Part) (a1:Part) :
  ACalls Tryz.prog w0 178 [.agg (Am a0.kind::(Am a0.index::([.val (.string a0.name)]))),.agg (Am a1.kind::(Am a1.index::([.val (.string a1.name)])))] ⟨B,Rw,L⟩ fun x st=>x = .val (.bool (AY a0 a1))∧st=⟨B,Rw,L⟩:=RQ w0 B Rw L a0 a1 _ rfl
def Eu (n:Nat)  : Option Bool :=
 some (true)
def Be (n:Nat) (y:List Part) (a1:List Part) (z:Part→Part→Option Bool):Nat→Int→Option Bool
 | 0,_=>none
 | m+1,b =>
  if decide (b<(y.length:Int)) then
   (Cb y b).bind fun g =>
   (Cb a1 b).bind fun h =>
   (z g h).bind fun q =>
   if !q then
    some (false)
   else
    if A6 (b+1) then
     (Be n y a1 z m) (b+1)
    else none
  else
   Eu n 
def EK (n:Nat) (b:List Part) (g:List Part) (h:Part→Part→Option Bool):Option Bool :=
 if !(decide ((b.length:Int)=(g.length:Int))) then
  some (false)
 else
  Be n b g h n 0
theorem Ny (w0:World) (n:Nat) (B:Ao) (Rw:Av) (L:As) (a0:List Part) (a1:List Part) (fa2:FuncId) (ca2:List AV) (a2:Part→Part→Option Bool) (ha2:∀ (x0:Part) (x1:Part) r,a2 x0 x1=some r→∀ B' rows,B <+: B'→Rw <+: rows→ACalls Tryz.prog w0 fa2 ([.agg (Am x0.kind::(Am x0.index::([.val (.string x0.name)]))),.agg (Am x1.kind::(Am x1.index::([.val (.string x1.name)])))]++ca2) ⟨B',rows,L⟩ fun v s=>v = .val (.bool r)∧s=⟨B',rows,L⟩) (r:Bool) (h:EK n a0 a1 a2=some r) :
  ACalls Tryz.prog w0 177 [.list (a0.map AK) .none,.list (a1.map AK) .none,.clo fa2 ca2] ⟨B,Rw,L⟩ fun x st=>x = .val (.bool r)∧st=⟨B,Rw,L⟩:=by
 rw [EK] at h
 refine hd [.tmp 6] Tryz.func177 Tryz.ntmps177 fun M0 W0 l g i c o f hs=>?_
 simp only [AA]
 have d:=B6 (o (.clo fa2 ca2) (by simp))
 refine rg [0,1,2] hs ?_
 apply An;intro K2 j
 refine rg [0,1,2,14] hs ?_
 refine BQ h hs ?_ ?_<;>intro hs h
 ·refine rg [6] hs ?_
  exact rt h hs c f
 refine sk [0,1,2] hs j ?_
 clear j
 refine AB (fun e st=>Ck e st B Rw L [] [] [] (Eu n  = some r)) ?_ ?_
 ·intro K8 k
  refine rg [1,2,15,16,17] hs ?_
  apply Aq
  refine AC (fun m e st=>∃ (b:Int),Ck e st B Rw L [(1,true,.list (a1.map AK) .none),(2,true,.clo fa2 ca2),(15,true,.list (a0.map AK) .none),(16,true,Am (a0.length:Int)),(17,true,Am b)] [] [] (Be n a0 a1 a2 m b=some r)) n ⟨0,([]),Rw,ef hs,ef hs,f,h⟩ ?_
  rintro ml10 e st ⟨b,Xl10,Rl10,rfl,rfl,f,h⟩ Ul10 Vl10
  cases ml10 with
  | zero=>cases h
  | succ ml10 =>
  rw [Be] at h
  refine A9 l g i rfl c f (OJ d f) (OJ d f) ?_
  exact go (tg (a:=([1,2,15,16,17,18],([1,2,15,16,17],[1,2,7,8,15,16,17],[1,2,8,9,15,16,17],[1,2,15,16,17,30],([6],()),[1,2,15,16,17],[1,2,15,16,17],()),[],()))) h hs l g i c f (q1 ha2) (q2 k (fun e s=>Vl10 ml10 e s (Nat.lt_succ_self _)))
 ·clear h;rintro e st ⟨Xk7,Rk7,rfl,rfl,f,h⟩
  rw [Eu] at h
  refine A9 l g i rfl c f (OJ d f) (OJ d f) ?_
  refine rg [6] hs ?_
  exact rt h hs c f
def Is (n:Nat) (g:List Part) (b:List Part):Option Bool :=
 if 0≤0∧0≤(if (b.length:Int)<(g.length:Int) then (b.length:Int) else (g.length:Int))∧(if (b.length:Int)<(g.length:Int) then (b.length:Int) else (g.length:Int))≤(g.length:Int) then
  if 0≤0∧0≤(if (b.length:Int)<(g.length:Int) then (b.length:Int) else (g.length:Int))∧(if (b.length:Int)<(g.length:Int) then (b.length:Int) else (g.length:Int))≤(b.length:Int) then
   (EK n (g.take ((if (b.length:Int)<(g.length:Int) then (b.length:Int) else (g.length:Int))).toNat) (b.take ((if (b.length:Int)<(g.length:Int) then (b.length:Int) else (g.length:Int))).toNat) (fun (q:Part) (y:Part)=>some (AY q y))).bind fun h =>
   some (h)
  else none
 else none
theorem U5 (w0:World) (n:Nat) (B:Ao) (Rw:Av) (L:As) (a0:List Part) (a1:List Part) (r:Bool) (h:Is n a0 a1=some r) :
  ACalls Tryz.prog w0 98 [.list (a0.map AK) .none,.list (a1.map AK) .none] ⟨B,Rw,L⟩ fun x st=>x = .val (.bool r)∧st=⟨B,Rw,L⟩:=by
 rw [Is] at h
 refine hd [.tmp 4] Tryz.func98 Tryz.ntmps98 fun M0 W0 m c d a o e hs=>?_
 simp only [AA]
 refine rg [0,1] hs ?_
 refine rg [0,1,5] hs ?_
 obtain ⟨i,h⟩:=Au h
 obtain ⟨g,h⟩:=Au h
 obtain ⟨k,hy6,h⟩:=bind_some h
 apply An;intro K3 b
 refine dk 8 2 1 [4] hs PH ?_
 refine Aw _ (Ny w0 n _ _ _ (a0.take ((if (a1.length:Int)<(a0.length:Int) then (a1.length:Int) else (a0.length:Int))).toNat) (a1.take ((if (a1.length:Int)<(a0.length:Int) then (a1.length:Int) else (a0.length:Int))).toNat) 178 [] (fun (x0:Part) (x1:Part)=>some (AY x0 x1)) (fun x0 x1 r hx l rows' j f=>by cases hx;exact QI w0 _ _ _ x0 x1) _ hy6) (hv hs) ?_
 refine dn hs b ?_
 clear b
 exact rt h hs a e
def DK (n:Nat) (a0:ByteArray) (g:List Part) (q:List Part):Option Bool :=
 (Do n a0).bind fun b =>
 if decide (b.2=0) then
  (CY n g b.1).bind fun y =>
  if y then
   some (true)
  else
   (CY n b.1 g).bind fun z =>
   if z then
    if 0≤(g.length:Int)∧(g.length:Int)≤(b.1.length:Int)∧(b.1.length:Int)≤(b.1.length:Int) then
     (Is n (b.1.drop g.length) q).bind fun h =>
     some (h)
    else none
   else
    some (false)
 else
  some (false)
theorem PI (w0:World) (hE:Jl w0) (hM:Jh w0) (hP:Pow10 w0) (n:Nat) (B:Ao) (Rw:Av) (L:As) (a0:ByteArray) (la1:Nat) (a1:List Part) (hla1:B[la1]? = some ([.list (a1.map AK) .none])) (la2:Nat) (a2:List Part) (hla2:B[la2]? = some ([.list (a2.map AK) .none])) (r:Bool) (h:DK n a0 a1 a2=some r) :
  ACalls Tryz.prog w0 182 [.val (.string a0),.box la1 0,.box la2 0] ⟨B,Rw,L⟩ fun x st=>x = .val (.bool r)∧st=⟨B,Rw,L⟩:=by
 rw [DK] at h
 refine hd [.tmp 4] Tryz.func182 Tryz.ntmps182 fun M0 W0 u s o a v k hs=>?_
 simp only [AA]
 have i:=(Ak.1 hla1).1
 have j:=(Ak.1 hla2).1
 have hs:=Ae (Ar hla1) hs
 have hs:=Ae (Ar hla2) hs
 refine rg [0,1,2] hs ?_
 obtain ⟨c,l,h⟩:=bind_some h
 refine rc 2 [1,2,5,6] hs ?_;intro K2 f
 refine Aw _ (Gx w0 hE hM hP n _ _ _ a0 _ l) (hv hs) ?_
 refine ne hs f ?_
 clear f
 apply An;intro K4 b
 rcases Bool.eq_false_or_eq_true (decide (c.2=0)) with hf5 | hf5
 ·replace h:=A7 h hf5
  obtain ⟨p,d,h⟩:=bind_some h
  rcases Bool.eq_false_or_eq_true (p) with hf7 | hf7
  ·replace h:=A7 h hf7
   have hs:=Ae hf5 hs
   have hs:=Ae hf7 hs
   refine dk 21 4 1 [4] hs PH ?_
   refine Aw _ (Dh w0 n _ _ _ a1 c.1 _ d) (hv hs) ?_
   refine nc hs ?_
   refine Ep ?_
   refine nc hs ?_
   refine Ep ?_
   refine dn hs b ?_
   clear b
   exact rt h hs a k
  ·replace h:=A8 h hf7
   obtain ⟨t,g,h⟩:=bind_some h
   rcases Bool.eq_false_or_eq_true (t) with hf9 | hf9
   ·replace h:=A7 h hf9
    obtain ⟨m,h⟩:=Au h
    obtain ⟨q,e,h⟩:=bind_some h
    have hs:=Ae hf5 hs
    have hs:=Ae hf7 hs
    have hs:=Ae hf9 hs
    refine dk 21 4 1 [4] hs PH ?_
    refine Aw _ (Dh w0 n _ _ _ a1 c.1 _ d) (hv hs) ?_
    refine nc hs ?_
    refine Aw _ (Dh w0 n _ _ _ c.1 a1 _ g) (hv hs) ?_
    refine nc hs ?_
    refine Aw _ (U5 w0 n _ _ _ (c.1.drop a1.length) a2 _ e) (hv hs) ?_
    refine dn hs b ?_
    clear b
    exact rt h hs a k
   ·replace h:=A8 h hf9
    have hs:=Ae hf5 hs
    have hs:=Ae hf7 hs
    have hs:=Ae hf9 hs
    refine dk 21 4 1 [4] hs PH ?_
    refine Aw _ (Dh w0 n _ _ _ a1 c.1 _ d) (hv hs) ?_
    refine nc hs ?_
    refine Aw _ (Dh w0 n _ _ _ c.1 a1 _ g) (hv hs) ?_
    refine nc hs ?_
    refine Ep ?_
    refine dn hs b ?_
    clear b
    exact rt h hs a k
 ·replace h:=A8 h hf5
  have hs:=Ae hf5 hs
  refine dk 21 4 1 [4] hs PH ?_
  refine Ep ?_
  refine nc hs ?_
  refine Ep ?_
  refine nc hs ?_
  refine Ep ?_
  refine dn hs b ?_
  clear b
  exact rt h hs a k
def F8 (n:Nat) (y:List ByteArray) (h:List Part) (b:List Part):Option Bool :=
 (BS n y (fun (q:ByteArray)=>DK n q h b)).bind fun g =>
 some (g)
theorem RP (w0:World) (hE:Jl w0) (hM:Jh w0) (hP:Pow10 w0) (n:Nat) (B:Ao) (Rw:Av) (L:As) (a0:List ByteArray) (a1:List Part) (a2:List Part) (r:Bool) (h:F8 n a0 a1 a2=some r) :
  ACalls Tryz.prog w0 101 [.list (a0.map CB) .none,.list (a1.map AK) .none,.list (a2.map AK) .none] ⟨B,Rw,L⟩ fun x st=>x = .val (.bool r)∧st=⟨B,Rw,L⟩:=by
 rw [F8] at h
 refine hd [.tmp 6] Tryz.func101 Tryz.ntmps101 fun M0 W0 o f g a p i hs=>?_
 simp only [AA]
 refine rg [0,4,5] hs ?_
 obtain ⟨l,d,h⟩:=bind_some h
 refine rc 2 [6] hs ?_;intro K2 b
 refine Aw _ (KV w0 n _ _ _ a0 182 [.box B.length 0,.box (B.length+1) 0] (fun (e:ByteArray)=>DK n e a1 a2) (fun e r k m rows' c j=>by exact PI w0 hE hM hP n _ _ _ e _ a1 (D1 c ev) _ a2 (D1 c ev) _ k) _ d) (hv hs) ?_
 refine ne hs b ?_
 clear b
 exact rt h hs a i
def Ef (b:Part):Bool :=
 !(decide (b.kind=1))
theorem QV (w0:World) (B:Ao) (Rw:Av) (L:As) (a0:Part) (r:Bool) (h:Ef a0=r) :
  ACalls Tryz.prog w0 151 [.agg (Am a0.kind::(Am a0.index::([.val (.string a0.name)])))] ⟨B,Rw,L⟩ fun x st=>x = .val (.bool r)∧st=⟨B,Rw,L⟩:=by
 rw [Ef] at h
 refine hd [.tmp 2] Tryz.func151 Tryz.ntmps151 fun M0 W0 e b c a f d hs=>?_
 simp only [AA]
 refine rg [1] hs ?_
 refine rg [2] hs ?_
 exact rT h hs a d
theorem PQ (w0:World) (B:Ao) (Rw:Av) (L:As) (a0:Part) :
  ACalls Tryz.prog w0 151 [.agg (Am a0.kind::(Am a0.index::([.val (.string a0.name)])))] ⟨B,Rw,L⟩ fun x st=>x = .val (.bool (Ef a0))∧st=⟨B,Rw,L⟩:=QV w0 B Rw L a0 _ rfl
def IZ (n:Nat)  : Option Int :=
 some (0)
def EH (n:Nat) (h:List Int):Nat→Int→Option Int
 | 0,_=>none
 | m+1,b =>
  if decide (b<(h.length:Int)) then
   (Cb h b).bind fun g =>
   if !(decide (g=0)) then
    some (g)
   else
    if A6 (b+1) then
     (EH n h m) (b+1)
    else none
  else
   IZ n 
def GN (n:Nat) (b:List Int):Option Int :=
 EH n b n 0
theorem OE (w0:World) (n:Nat) (B:Ao) (Rw:Av) (L:As) (a0:List Int) (r:Int) (h:GN n a0=some r) :
  ACalls Tryz.prog w0 72 [.list (a0.map avI) .none] ⟨B,Rw,L⟩ fun x st=>x=Am r∧st=⟨B,Rw,L⟩:=by
 rw [GN] at h
 refine hd [.tmp 2] Tryz.func72 Tryz.ntmps72 fun M0 W0 j f g c k d hs=>?_
 simp only [AA]
 refine rg [0] hs ?_
 refine AB (fun e st=>Ck e st B Rw L [] [] [] (IZ n  = some r)) ?_ ?_
 ·intro K4 i
  refine rg [5,6,7] hs ?_
  apply Aq
  refine AC (fun m e st=>∃ (b:Int),Ck e st B Rw L [(5,true,.list (a0.map avI) .none),(6,true,Am (a0.length:Int)),(7,true,Am b)] [] [] (EH n a0 m b=some r)) n ⟨0,([]),Rw,ef hs,ef hs,d,h⟩ ?_
  rintro ml6 e st ⟨b,Xl6,Rl6,rfl,rfl,d,h⟩ Ul6 Vl6
  cases ml6 with
  | zero=>cases h
  | succ ml6 =>
  rw [EH] at h
  exact go (tg (a:=([5,6,7,8],([5,6,7],[4,5,6,7],[4,5,6,7,12],([2],()),[5,6,7],[5,6,7],()),[],()))) h hs j f g c d trivial (q2 i (fun e s=>Vl6 ml6 e s (Nat.lt_succ_self _)))
 ·clear h;rintro e st ⟨Xk3,Rk3,rfl,rfl,d,h⟩
  rw [IZ] at h
  refine td j f g c d ?_
  refine rg [2] hs ?_
  exact rt h hs c d
def Gw (n:Nat) (g:Ty):Option ((List (List Part))) :=
 (HT n g).bind fun h =>
 if !(decide (h=0)) then
  some ([])
 else
  (E2 n g ([]) ([])).bind fun b =>
  some (b)
theorem RH (w0:World) (hT:Lib.Utf8Tabs 2 3 w0) (n:Nat) (B:Ao) (Rw:Av) (L:As) (a0:Ty) (r:(List (List Part))) (h:Gw n a0=some r) :
  ACalls Tryz.prog w0 33 [.agg (a0.cs)] ⟨B,Rw,L⟩ fun x st=>x = .list (r.map (Jc AK)) .none∧st=⟨B,Rw,L⟩:=by
 rw [Gw] at h
 refine hd [.tmp 2] Tryz.func33 Tryz.ntmps33 fun M0 W0 q k l a p d hs=>?_
 simp only [AA]
 refine rg [1] hs ?_
 apply An;intro K2 f
 obtain ⟨o,i,h⟩:=bind_some h
 refine rc 2 [1,7] hs ?_;intro K3 e
 refine Aw _ (ON w0 hT n _ _ _ a0 _ i) (hv hs) ?_
 refine ne hs e ?_
 clear e
 refine BQ h hs ?_ ?_<;>intro hs h
 ·refine rg [2] hs ?_
  exact rt h hs a d
 refine sk [1] hs f ?_
 clear f
 refine rg [1,3] hs ?_
 refine rg [1,3,4] hs ?_
 refine rg [1,3,4] hs ?_
 have d:=d.full 1 0
 obtain ⟨m,g,h⟩:=bind_some h
 refine rc 2 [3] hs ?_;intro K10 c
 refine ET _ (OH w0 n _ _ _ a0 ([]) (B.length+1) ([]) .full (ef hs) d.enter (B.length+2) (ef hs) _ g) (hv hs) ?_;rintro _ _ ⟨rfl,Rg13,j,rfl,b⟩
 have d:=d.call b
 refine ne hs c ?_
 clear c
 refine rg [2] hs ?_
 exact rt h hs a d
def Ig (n:Nat)  (b:List (List Part)):Option ((List (List Part))) :=
 some (b)
def DX (n:Nat) (h:(List (List Part))):Nat→(List (List Part))→Int→Option ((List (List Part)))
 | 0,_,_=>none
 | m+1,g,b =>
  if decide (b<(h.length:Int)) then
   (Cb h b).bind fun q =>
   if (g.length+1)*24≤140737488355328∧g.length+1≤4611686018427387904 then
    if A6 (b+1) then
     (DX n h m) (g++([q])) (b+1)
    else none
   else none
  else
   Ig n g
def G6 (n:Nat) (g:Ty):Option ((List (List Part))) :=
 (Gw n g).bind fun b =>
 DX n b n ([]) 0
theorem Ug (w0:World) (hT:Lib.Utf8Tabs 2 3 w0) (n:Nat) (B:Ao) (Rw:Av) (L:As) (a0:Ty) (r:(List (List Part))) (h:G6 n a0=some r) :
  ACalls Tryz.prog w0 84 [.agg (a0.cs)] ⟨B,Rw,L⟩ fun x st=>x = .list (r.map (Jc AK)) .none∧st=⟨B,Rw,L⟩:=by
 rw [G6] at h
 refine hd [.tmp 2] Tryz.func84 Tryz.ntmps84 fun M0 W0 u j k i v l hs=>?_
 simp only [AA]
 refine rg [1] hs ?_
 refine rg [1,3] hs ?_
 refine AB (fun e st=>∃ (d:List (List Part)) (c:Ev.Own),Ck e st B Rw L [(3,true,.list (d.map (Jc AK)) c)] [a0.cs] [(1,d.length,c)] (Ig n d=some r)) ?_ ?_
 ·intro K5 t
  obtain ⟨p,q,h⟩:=bind_some h
  refine rc 2 [3,7,8,9] hs ?_;intro K6 o
  refine Aw _ (RH w0 hT n _ _ _ a0 _ q) (hv hs) ?_
  refine ne hs o ?_
  clear o
  apply Aq
  refine AC (fun m e st=>∃ (f:List (List Part)) (g:Int) (b:Ev.Own),Ck e st B Rw L [(3,true,.list (f.map (Jc AK)) b),(7,true,.list (p.map (Jc AK)) .none),(8,true,Am (p.length:Int)),(9,true,Am g)] [a0.cs] [(1,f.length,b)] (DX n p m f g=some r)) n ⟨([]),0,.full,([]),Rw,ef hs,ef hs,Owns.of_eq ((l).full 1 0) D6,h⟩ ?_
  rintro ml8 e st ⟨f,g,b,Xl8,Rl8,rfl,rfl,l,h⟩ Ul8 Vl8
  cases ml8 with
  | zero=>cases h
  | succ ml8 =>
  rw [DX] at h
  exact go (tg (a:=([3,7,8,9,10],([3,7,8,9],[3,5,7,8,9],[3,7,8,9],[3,7,8,9],()),[3],()))) h hs u j k i l (q1 (ae Wv N6)) (q2 t (fun e s=>Vl8 ml8 e s (Nat.lt_succ_self _)))
 ·clear h;rintro e st ⟨d,c,Xk4,Rk4,rfl,rfl,l,h⟩
  rw [Ig] at h
  exact go (tg (a:=([2],()))) h hs u j k i l trivial trivial
def DD (n:Nat)  (b:Int):Option Int :=
 some (b)
def EU (n:Nat) (b:Ty):Option Int :=
 (HT n b).bind fun g =>
 if (decide (g=0))&&(!(decide (b.kind=9))) then
  DD n 11
 else
  DD n g
theorem Nl (w0:World) (hT:Lib.Utf8Tabs 2 3 w0) (n:Nat) (B:Ao) (Rw:Av) (L:As) (a0:Ty) (r:Int) (h:EU n a0=some r) :
  ACalls Tryz.prog w0 73 [.agg (a0.cs)] ⟨B,Rw,L⟩ fun x st=>x=Am r∧st=⟨B,Rw,L⟩:=by
 rw [EU] at h
 refine hd [.tmp 2] Tryz.func73 Tryz.ntmps73 fun M0 W0 l d f c o i hs=>?_
 simp only [AA]
 refine rg [1] hs ?_
 obtain ⟨m,j,h⟩:=bind_some h
 refine rc 2 [1,3] hs ?_;intro K2 g
 refine Aw _ (ON w0 hT n _ _ _ a0 _ j) (hv hs) ?_
 refine ne hs g ?_
 clear g
 refine AB (fun e st=>∃ (b:Int),Ck e st B Rw L [(3,true,Am b)] [a0.cs] [] (DD n b=some r)) ?_ ?_
 ·intro K6 k
  exact go (tg (a:=([3,12],([3],()),[3],()))) h hs l d f c i trivial (q1 k)
 ·clear h;rintro e st ⟨b,Xk5,Rk5,rfl,rfl,i,h⟩
  rw [DD] at h
  refine td l d f c i ?_
  refine rg [2] hs ?_
  exact rt h hs c i
def Md (n:Nat)  (b:ByteArray):Option (ByteArray × Int) :=
 if 0≤1∧1≤(b.size:Int)∧(b.size:Int)≤(b.size:Int) then
  some ((b.extract 1 b.size,0))
 else none
def HA (n:Nat) (y:List Part):Nat→ByteArray→Int→Option (ByteArray × Int)
 | 0,_,_=>none
 | m+1,g,b =>
  if decide (b<(y.length:Int)) then
   (Cb y b).bind fun q =>
   (FD q).bind fun h =>
   if g.size+h.size≤9223372036854775807 then
    if A6 (b+1) then
     (HA n y m) (g++h) (b+1)
    else none
   else none
  else
   Md n g
def Ib (n:Nat) (b:List Part):Option (ByteArray × Int) :=
 (IC n b).bind fun g =>
 if !(decide (g=0)) then
  some (((⟨#[]⟩:ByteArray),g))
 else
  HA n b n (⟨#[]⟩:ByteArray) 0
theorem QC (w0:World) (hP:Pow10 w0) (n:Nat) (B:Ao) (Rw:Av) (L:As) (a0:List Part) (r:ByteArray × Int) (h:Ib n a0=some r) :
  ACalls Tryz.prog w0 152 [.list (a0.map AK) .none] ⟨B,Rw,L⟩ fun x st=>x = .tup [.val (.string r.1),Am r.2]∧st=⟨B,Rw,L⟩:=by
 rw [Ib] at h
 refine hd [.tmp 2,.tmp 3] Tryz.func152 Tryz.ntmps152 fun M0 W0 C q k c N i hs=>?_
 simp only [AA]
 refine rg [0] hs ?_
 apply An;intro K2 u
 obtain ⟨O,E,h⟩:=bind_some h
 refine rc 2 [0,4] hs ?_;intro K3 y
 refine Aw _ (S5 w0 hP n _ _ _ a0 _ E) (hv hs) ?_
 refine ne hs y ?_
 clear y
 refine rg [0,4,11] hs ?_
 refine BQ h hs ?_ ?_<;>intro hs h
 ·refine rg [2,3] hs ?_
  exact rt h hs c i
 refine sk [0] hs u ?_
 clear u
 refine rg [0,5] hs ?_
 refine AB (fun e st=>∃ (g:ByteArray),Ck e st B Rw L [(5,true,.val (.string g))] [] [] (Md n g=some r)) ?_ ?_
 ·intro K11 w
  refine rg [5,13,14,15] hs ?_
  apply Aq
  refine AC (fun m e st=>∃ (b:ByteArray) (d:Int),Ck e st B Rw L [(5,true,.val (.string b)),(13,true,.list (a0.map AK) .none),(14,true,Am (a0.length:Int)),(15,true,Am d)] [] [] (HA n a0 m b d=some r)) n ⟨(⟨#[]⟩:ByteArray),0,([]),Rw,ef hs,ef hs,i,h⟩ ?_
  rintro ml13 e st ⟨b,d,Xl13,Rl13,rfl,rfl,i,h⟩ Ul13 Vl13
  cases ml13 with
  | zero=>cases h
  | succ ml13 =>
  rw [HA] at h
  refine td C q k c i ?_
  refine rg [5,13,14,15,16] hs ?_
  apply An;intro K15 j
  refine BQ h hs ?_ ?_<;>intro hs h
  rotate_left
  ·refine sx [5] hs w ?_
   exact ⟨b,([]),Rl13,ef hs,ef hs,i,h⟩
  refine sk [5,13,14,15] hs j ?_
  clear j
  apply An;intro K17 z
  apply Aq
  obtain ⟨J,v,h⟩:=bind_some h
  obtain ⟨F,D,p⟩:=Bi v
  have l:=Bj (f:=AK) p
  have hs:=Ae l hs
  refine rg [5,7,13,14,15] hs ?_
  obtain ⟨K,G,h⟩:=bind_some h
  obtain ⟨t,h⟩:=Au h
  have o:=t
  try simp +decide only [go_sem] at o
  exact go (tg (a:=([5,13,14,15],[5,13,14,15],()))) h hs C q k c i (q1 (NK w0 hP)) (q2 z (fun e s=>Vl13 ml13 e s (Nat.lt_succ_self _)))
 ·clear h;rintro e st ⟨g,Xk10,Rk10,rfl,rfl,i,h⟩
  rw [Md] at h
  refine td C q k c i ?_
  obtain ⟨H,h⟩:=Au h
  refine rg [2,3] hs ?_
  exact rt h hs c i
def Ed (n:Nat) (g:(List ByteArray)→(List ByteArray)→Int→Option ((List ByteArray) × (List ByteArray) × Int)) (b:Int) (h:List ByteArray) (q:List ByteArray):Option ((List ByteArray) × (List ByteArray) × Int) :=
 if A6 (b+1) then
  g h q (b+1)
 else none
def Hj (n:Nat)  (g:List ByteArray) (b:List ByteArray):Option ((List ByteArray) × (List ByteArray) × Int) :=
 some ((g,b,0))
def BX (n:Nat) (y:((List Part) × Int)) (z:(List ByteArray)) (q:(List (List Part))):Nat→(List ByteArray)→(List ByteArray)→Int→Option ((List ByteArray) × (List ByteArray) × Int)
 | 0,_,_,_=>none
 | m+1,g,b,h =>
  if decide (h<(q.length:Int)) then
   (Cb q h).bind fun x36 =>
   (Ib n x36).bind fun y38 =>
   (F8 n z y.1 x36).bind fun y40 =>
   if y40 then
    if (g.length+1)*16≤140737488355328∧g.length+1≤4611686018427387904 then
     Ed n (BX n y z q m) h (g++([y38.1])) b
    else none
   else
    if (b.length+1)*16≤140737488355328∧b.length+1≤4611686018427387904 then
     Ed n (BX n y z q m) h g (b++([y38.1]))
    else none
  else
   Hj n g b
def FK (n:Nat) (a0:List (ByteArray × Ex)) (z:Ty) (a2:ByteArray):Option ((List ByteArray) × (List ByteArray) × Int) :=
 (Db n a0).bind fun y4 =>
 (EU n z).bind fun y5 =>
 (GN n ([y4,y5])).bind fun y =>
 if !(decide (y=0)) then
  some (([],[],y))
 else
  (Do n a2).bind fun b =>
  if !(decide (b.2=0)) then
   some (([],[],b.2))
  else
   (A3 n b.1 (fun (x0:Part)=>some (Ef x0))).bind fun q =>
   if q then
    some (([],[],22))
   else
    (Dn n a0).bind fun h =>
    (G6 n z).bind fun g =>
    BX n b h g n ([]) ([]) 0
theorem NA (w0:World) (hE:Jl w0) (hM:Jh w0) (hP:Pow10 w0) (hT:Lib.Utf8Tabs 2 3 w0) (n:Nat) (B:Ao) (Rw:Av) (L:As) (a0:List (ByteArray × Ex)) (a1:Ty) (a2:ByteArray) (r:(List ByteArray) × (List ByteArray) × Int) (h:FK n a0 a1 a2=some r) :
  ACalls Tryz.prog w0 63 [.agg ([.list (a0.map A5) .none]),.agg (a1.cs),.val (.string a2)] ⟨B,Rw,L⟩ fun x st=>x = .tup [.list (r.1.map CB) .none,.list (r.2.1.map CB) .none,Am r.2.2]∧st=⟨B,Rw,L⟩:=by
 rw [FK] at h
 refine hd [.tmp 6,.tmp 7,.tmp 8] Tryz.func63 Tryz.ntmps63 fun M0 W0 hN H F i hu z hs=>?_
 simp only [AA]
 refine rg [2,3,4,6,7] hs ?_
 apply An;intro K2 aj
 obtain ⟨y4,ay,h⟩:=bind_some h
 obtain ⟨y5,a4,h⟩:=bind_some h
 obtain ⟨y6,az,h⟩:=bind_some h
 apply An;intro K3 ao
 refine dk 7 4 1 [2,3,4,6,7,9] hs PH ?_
 refine Aw _ (Ho w0 hE hM hP n _ _ _ a0 _ ay) (hv hs) ?_
 refine nc hs ?_
 refine Aw _ (Nl w0 hT n _ _ _ a1 _ a4) (hv hs) ?_
 refine nc hs ?_
 refine Aw _ (OE w0 n _ _ _ ([y4,y5]) _ az) (hv hs) ?_
 refine dn hs ao ?_
 clear ao
 refine rg [2,3,4,6,7,9,23] hs ?_
 refine BQ h hs ?_ ?_<;>intro hs h
 ·refine rg [6,7,8] hs ?_
  exact rt h hs i z
 refine sk [2,3,4,6,7] hs aj ?_
 clear aj
 obtain ⟨C,ai,h⟩:=bind_some h
 refine rc 2 [3,4,6,7,8,10] hs ?_;intro K10 O
 refine Aw _ (Gx w0 hE hM hP n _ _ _ a2 _ ai) (hv hs) ?_
 refine ne hs O ?_
 clear O
 apply An;intro K12 V
 refine rg [3,4,6,7,8,10,31] hs ?_
 refine BQ h hs ?_ ?_<;>intro hs h
 ·refine rg [6,7,8] hs ?_
  exact rt h hs i z
 refine sk [3,4,6,7,10] hs V ?_
 clear V
 apply An;intro K16 aa
 obtain ⟨a9,hy18,h⟩:=bind_some h
 refine rc 2 [3,4,6,7,10,34] hs ?_;intro K17 ab
 refine Aw _ (Dv w0 n _ _ _ C.1 151 [] (fun (x0:Part)=>some (Ef x0)) (fun x0 r hx B' rows' a7 ba=>by cases hx;exact PQ w0 _ _ _ x0) _ hy18) (hv hs) ?_
 refine ne hs ab ?_
 clear ab
 refine BQ h hs ?_ ?_<;>intro hs h
 ·refine rg [6,7,8] hs ?_
  exact rt h hs i z
 refine sk [3,4,6,7,10] hs aa ?_
 clear aa
 obtain ⟨E,ak,h⟩:=bind_some h
 refine rc 2 [4,6,7,10,11] hs ?_;intro K21 N
 refine Aw _ (KH w0 hE hM hP hT n _ _ _ a0 _ ak) (hv hs) ?_
 refine ne hs N ?_
 clear N
 refine AB (fun e st=>∃ (t:List ByteArray) (u:List ByteArray) (v:Ev.Own) (w:Ev.Own),Ck e st B Rw L [(6,true,.list (t.map CB) v),(7,true,.list (u.map CB) w)] [[.list (a0.map A5) .none],a1.cs] [(1,t.length,v),(1,u.length,w)] (Hj n t u=some r)) ?_ ?_
 ·intro K25 am
  obtain ⟨D,ar,h⟩:=bind_some h
  refine rc 2 [6,7,10,11,38,39,40] hs ?_;intro K26 J
  refine Aw _ (Ug w0 hT n _ _ _ a1 _ ar) (hv hs) ?_
  refine ne hs J ?_
  clear J
  apply Aq
  refine AC (fun m e st=>∃ (c:List ByteArray) (g:List ByteArray) (b:Int) (l:Ev.Own) (d:Ev.Own),Ck e st B Rw L [(6,true,.list (c.map CB) l),(7,true,.list (g.map CB) d),(10,true,.list (C.1.map AK) .none),(11,true,.list (E.map CB) .none),(38,true,.list (D.map (Jc AK)) .none),(39,true,Am (D.length:Int)),(40,true,Am b)] [[.list (a0.map A5) .none],a1.cs] [(1,c.length,l),(1,g.length,d)] (BX n C E D m c g b=some r)) n ⟨([]),([]),0,.full,.full,([]),Rw,ef hs,ef hs,Owns.of_eq (((z).full 1 0).full 1 0) D6,h⟩ ?_
  rintro ml28 e st ⟨c,g,b,l,d,Xl28,Rl28,rfl,rfl,z,h⟩ Ul28 Vl28
  cases ml28 with
  | zero=>cases h
  | succ ml28 =>
  rw [BX] at h
  have hU:=z.unders
  simp only [List.mem_cons,List.not_mem_nil,or_false,forall_eq_or_imp,forall_eq] at hU
  obtain ⟨ax,av⟩:=hU
  refine td hN H F i z ?_
  refine rg [6,7,10,11,38,39,40,41] hs ?_
  apply An;intro K30 U
  refine BQ h hs ?_ ?_<;>intro hs h
  rotate_left
  ·refine sx [6,7] hs am ?_
   exact ⟨c,g,l,d,([]),Rl28,ef hs,ef hs,Owns.of_eq (((z).swap (List.Perm.swap _ _ _)).swap (List.Perm.swap _ _ _)) D6,h⟩
  refine sk [6,7,10,11,38,39,40] hs U ?_
  clear U
  refine AB (fun e st=>∃ (j:List ByteArray) (k:List ByteArray) (p:Ev.Own) (o:Ev.Own),Ck e st B Rw L [(6,true,.list (j.map CB) p),(7,true,.list (k.map CB) o),(10,true,.list (C.1.map AK) .none),(11,true,.list (E.map CB) .none),(38,true,.list (D.map (Jc AK)) .none),(39,true,Am (D.length:Int)),(40,true,Am b)] [[.list (a0.map A5) .none],a1.cs] [(1,j.length,p),(1,k.length,o)] (Ed n (BX n C E D ml28) b j k=some r)) ?_ ?_
  ·intro K34 Z
   apply Aq
   obtain ⟨ah,ag,h⟩:=bind_some h
   obtain ⟨au,a5,ad⟩:=Bi ag
   have af:=Bj (f:=(Jc AK)) ad
   have hs:=Ae af hs
   refine rg [6,7,10,11,13,38,39,40] hs ?_
   obtain ⟨aw,aq,h⟩:=bind_some h
   refine rc 2 [6,7,10,11,13,14,38,39,40] hs ?_;intro K37 Y
   refine Aw _ (QC w0 hP n _ _ _ ah _ aq) (hv hs) ?_
   refine ne hs Y ?_
   clear Y
   obtain ⟨a8,ap,h⟩:=bind_some h
   refine rc 2 [6,7,10,11,14,38,39,40,52] hs ?_;intro K39 Q
   refine Aw _ (RP w0 hE hM hP n _ _ _ E C.1 ah _ ap) (hv hs) ?_
   refine ne hs Q ?_
   clear Q
   refine BQ h hs ?_ ?_<;>intro hs h
   ·obtain ⟨K,h⟩:=Au h
    obtain ⟨a3,G,z,q⟩:=z.append (P:=Tryz.prog) OL (by rw [Me];rfl) (by decide) 1 K.1 K.2
    replace q:=fun (ys:List AV) B L o2=>q (c.map CB) ys B L o2 D6
    replace q:=fun (y:AV) B L o2=>q [y] B L o2 D6 ev
    try simp only [List.mem_singleton,List.mem_cons,List.not_mem_nil,or_false,forall_eq_or_imp,forall_eq,List.map_append,List.map_cons,List.map_nil,GE,GA,Gj,EQ,EO,F7,Dp,Ek,Ge,CP,CJ,EF,Ez,Et,Gi,Ew,F5] at q
    have hs:=Ae q hs
    refine rl [6,7,10,11,38,39,40] hs Z ?_
    exact ⟨(c++([aw.1])),g,a3,d,([]),G,ef hs,ef hs,Owns.of_eq (((z).swap (List.Perm.swap _ _ _)).swap (List.Perm.swap _ _ _)) D6,h⟩
   exact go (tg (a:=([6,7,10,11,38,39,40],()))) h hs hN H F i z (q1 (ae OL Me)) (q1 Z)
  ·clear h;rintro e st ⟨j,k,p,o,Xk33,Rk33,rfl,rfl,z,h⟩
   rw [Ed] at h
   have hU:=z.unders
   simp only [List.mem_cons,List.not_mem_nil,or_false,forall_eq_or_imp,forall_eq] at hU
   obtain ⟨ax,av⟩:=hU
   refine td hN H F i z ?_
   obtain ⟨a6,h⟩:=Au h
   refine rl [6,7,10,11,38,39,40] hs (fun e s=>Vl28 ml28 e s (Nat.lt_succ_self _)) ?_
   exact ⟨j,k,(b+1),p,o,([]),Rk33,ef hs,ef hs,Owns.of_eq (((z).swap (List.Perm.swap _ _ _)).swap (List.Perm.swap _ _ _)) D6,h⟩
 ·clear h;rintro e st ⟨t,u,v,w,Xk24,Rk24,rfl,rfl,z,h⟩
  rw [Hj] at h
  exact go (tg (a:=([6,7,8],()))) h hs hN H F i z trivial trivial
def I2 (n:Nat)  : Option Bool :=
 some (true)
def DV (n:Nat) (y:List Part) (q:List Part):Nat→Int→Option Bool
 | 0,_=>none
 | m+1,b =>
  if decide (b<(q.length:Int)) then
   (Cb y b).bind fun h =>
   (Cb q b).bind fun g =>
   if !(decide (h.kind=g.kind)&&(decide (h.index=g.index)&&(Gn h.name g.name))) then
    some (false)
   else
    if A6 (b+1) then
     (DV n y q m) (b+1)
    else none
  else
   I2 n 
def GW (n:Nat) (b:List Part) (g:List Part):Option Bool :=
 if decide ((b.length:Int)<(g.length:Int)) then
  some (false)
 else
  DV n b g n 0
theorem G7 (w0:World) (n:Nat) (B:Ao) (Rw:Av) (L:As) (a0:List Part) (a1:List Part) (r:Bool) (h:GW n a0 a1=some r) :
  ACalls Tryz.prog w0 158 [.list (a0.map AK) .none,.list (a1.map AK) .none] ⟨B,Rw,L⟩ fun x st=>x = .val (.bool r)∧st=⟨B,Rw,L⟩:=by
 rw [GW] at h
 refine hd [.tmp 4] Tryz.func158 Tryz.ntmps158 fun M0 W0 k f g c l d hs=>?_
 simp only [AA]
 refine rg [0,1] hs ?_
 apply An;intro K2 i
 refine rg [0,1,10] hs ?_
 refine BQ h hs ?_ ?_<;>intro hs h
 ·refine rg [4] hs ?_
  exact rt h hs c d
 refine sk [0,1] hs i ?_
 clear i
 refine AB (fun e st=>Ck e st B Rw L [] [] [] (I2 n  = some r)) ?_ ?_
 ·intro K8 j
  refine rg [0,1,5] hs ?_
  apply Aq
  refine AC (fun m e st=>∃ (b:Int),Ck e st B Rw L [(0,true,.list (a0.map AK) .none),(1,true,.list (a1.map AK) .none),(5,true,Am b)] [] [] (DV n a0 a1 m b=some r)) n ⟨0,([]),Rw,ef hs,ef hs,d,h⟩ ?_
  rintro ml10 e st ⟨b,Xl10,Rl10,rfl,rfl,d,h⟩ Ul10 Vl10
  cases ml10 with
  | zero=>cases h
  | succ ml10 =>
  rw [DV] at h
  exact go (tg (a:=([0,1,5,14],([0,1,5],[9,0,1,5,25],([4],()),[0,1,5],[0,1,5],()),[],()))) h hs k f g c d trivial (q2 j (fun e s=>Vl10 ml10 e s (Nat.lt_succ_self _)))
 ·clear h;rintro e st ⟨Xk7,Rk7,rfl,rfl,d,h⟩
  rw [I2] at h
  refine td k f g c d ?_
  refine rg [4] hs ?_
  exact rt h hs c d
def BV (b:Part):Bool :=
 (decide (b.kind=3))||(decide (b.kind=2))
theorem Uw (w0:World) (B:Ao) (Rw:Av) (L:As) (a0:Part) (r:Bool) (h:BV a0=r) :
  ACalls Tryz.prog w0 184 [.agg (Am a0.kind::(Am a0.index::([.val (.string a0.name)])))] ⟨B,Rw,L⟩ fun x st=>x = .val (.bool r)∧st=⟨B,Rw,L⟩:=by
 rw [BV] at h
 refine hd [.tmp 2] Tryz.func184 Tryz.ntmps184 fun M0 W0 e b c a f d hs=>?_
 simp only [AA]
 refine rg [1] hs ?_
 refine rg [2] hs ?_
 exact rT h hs a d
theorem Dx (w0:World) (B:Ao) (Rw:Av) (L:As) (a0:Part) :
  ACalls Tryz.prog w0 184 [.agg (Am a0.kind::(Am a0.index::([.val (.string a0.name)])))] ⟨B,Rw,L⟩ fun x st=>x = .val (.bool (BV a0))∧st=⟨B,Rw,L⟩:=Uw w0 B Rw L a0 _ rfl
def Il (n:Nat)  : Option Bool :=
 some (true)
def Ce (n:Nat) (z:List Part) (y:List Part):Nat→Int→Option Bool
 | 0,_=>none
 | m+1,b =>
  if (decide (b<(z.length:Int)))&&(decide (b<(y.length:Int))) then
   (Cb z b).bind fun g =>
   if BV g then
    (Cb y b).bind fun h =>
    if BV h then
     if decide (g.kind=3) then
      if (!(decide (g.kind=h.kind)&&(decide (g.index=h.index)&&(Gn g.name h.name))))&&false then
       some (false)
      else
       if A6 (b+1) then
        (Ce n z y m) (b+1)
       else none
     else
      if (!(decide (g.kind=h.kind)&&(decide (g.index=h.index)&&(Gn g.name h.name))))&&(!(decide (h.kind=3))) then
       some (false)
      else
       if A6 (b+1) then
        (Ce n z y m) (b+1)
       else none
    else
     if !(decide (g.kind=h.kind)&&(decide (g.index=h.index)&&(Gn g.name h.name))) then
      some (false)
     else
      if A6 (b+1) then
       (Ce n z y m) (b+1)
      else none
   else
    (Cb y b).bind fun q =>
    if !(decide (g.kind=q.kind)&&(decide (g.index=q.index)&&(Gn g.name q.name))) then
     some (false)
    else
     if A6 (b+1) then
      (Ce n z y m) (b+1)
     else none
  else
   Il n 
def Lx (n:Nat) (b:List Part) (g:List Part):Option Bool :=
 Ce n b g n 0
theorem Xr (w0:World) (n:Nat) (B:Ao) (Rw:Av) (L:As) (a0:List Part) (a1:List Part) (r:Bool) (h:Lx n a0 a1=some r) :
  ACalls Tryz.prog w0 104 [.list (a0.map AK) .none,.list (a1.map AK) .none] ⟨B,Rw,L⟩ fun x st=>x = .val (.bool r)∧st=⟨B,Rw,L⟩:=by
 rw [Lx] at h
 refine hd [.tmp 4] Tryz.func104 Tryz.ntmps104 fun M0 W0 H u q a Q j hs=>?_
 simp only [AA]
 refine rg [0,1] hs ?_
 refine AB (fun e st=>Ck e st B Rw L [] [] [] (Il n  = some r)) ?_ ?_
 ·intro K4 C
  refine rg [0,1,5] hs ?_
  apply Aq
  refine AC (fun m e st=>∃ (b:Int),Ck e st B Rw L [(0,true,.list (a0.map AK) .none),(1,true,.list (a1.map AK) .none),(5,true,Am b)] [] [] (Ce n a0 a1 m b=some r)) n ⟨0,([]),Rw,ef hs,ef hs,j,h⟩ ?_
  rintro ml6 e st ⟨b,Xl6,Rl6,rfl,rfl,j,h⟩ Ul6 Vl6
  cases ml6 with
  | zero=>cases h
  | succ ml6 =>
  rw [Ce] at h
  refine td H u q a j ?_
  apply An;intro K7 v
  refine rg [0,1,5,16] hs ?_
  refine BQ h hs ?_ ?_<;>intro hs h
  rotate_left
  ·refine sx [] hs C ?_
   exact ⟨([]),Rl6,ef hs,ef hs,j,h⟩
  refine sk [0,1,5] hs v ?_
  clear v
  apply An;intro K10 c
  apply Aq
  apply An;intro K11 d
  obtain ⟨k,D,E,g,h⟩:=ix AK h
  rcases Bool.eq_false_or_eq_true (BV k) with hf13 | hf13
  ·replace h:=A7 h hf13
   obtain ⟨l,F,w,i,h⟩:=ix AK h
   rcases Bool.eq_false_or_eq_true (BV l) with hf15 | hf15
   ·replace h:=A7 h hf15
    rcases Bool.eq_false_or_eq_true (decide (k.kind=3)) with hf16 | hf16
    ·replace h:=A7 h hf16
     have hs:=Ae g hs
     have hs:=Ae hf13 hs
     have hs:=Ae i hs
     have hs:=Ae hf15 hs
     have hs:=Ae hf16 hs
     refine rk 3 [0,1,5,6] hs ?_
     refine Aw _ (Dx w0 _ _ _ k) (hv hs) ?_
     refine nc hs ?_
     refine Aw _ (Dx w0 _ _ _ l) (hv hs) ?_
     refine ne hs d ?_
     clear d
     refine dg 13 1 1 [0,1,5,59] hs PH ?_
     refine BQ h hs ?_ ?_<;>intro hs h
     ·refine rg [4] hs ?_
      exact rt h hs a j
     refine sk [0,1,5] hs c ?_
     clear c
     obtain ⟨G,h⟩:=Au h
     refine rl [0,1,5] hs (fun e s=>Vl6 ml6 e s (Nat.lt_succ_self _)) ?_
     exact ⟨(b+1),([]),Rl6,ef hs,ef hs,j,h⟩
    ·replace h:=A8 h hf16
     have hs:=Ae g hs
     have hs:=Ae hf13 hs
     have hs:=Ae i hs
     have hs:=Ae hf15 hs
     have hs:=Ae hf16 hs
     refine rk 3 [0,1,5,6] hs ?_
     refine Aw _ (Dx w0 _ _ _ k) (hv hs) ?_
     refine nc hs ?_
     refine Aw _ (Dx w0 _ _ _ l) (hv hs) ?_
     refine ne hs d ?_
     clear d
     refine dg 13 1 1 [0,1,5,59] hs PH ?_
     refine BQ h hs ?_ ?_<;>intro hs h
     ·refine rg [4] hs ?_
      exact rt h hs a j
     refine sk [0,1,5] hs c ?_
     clear c
     obtain ⟨J,h⟩:=Au h
     refine rl [0,1,5] hs (fun e s=>Vl6 ml6 e s (Nat.lt_succ_self _)) ?_
     exact ⟨(b+1),([]),Rl6,ef hs,ef hs,j,h⟩
   ·replace h:=A8 h hf15
    have hs:=Ae g hs
    have hs:=Ae hf13 hs
    have hs:=Ae i hs
    have hs:=Ae hf15 hs
    refine rk 3 [0,1,5,6] hs ?_
    refine Aw _ (Dx w0 _ _ _ k) (hv hs) ?_
    refine nc hs ?_
    refine Aw _ (Dx w0 _ _ _ l) (hv hs) ?_
    refine ne hs d ?_
    clear d
    refine dg 13 1 1 [0,1,5,59] hs PH ?_
    refine BQ h hs ?_ ?_<;>intro hs h
    ·refine rg [4] hs ?_
     exact rt h hs a j
    refine sk [0,1,5] hs c ?_
    clear c
    obtain ⟨N,h⟩:=Au h
    refine rl [0,1,5] hs (fun e s=>Vl6 ml6 e s (Nat.lt_succ_self _)) ?_
    exact ⟨(b+1),([]),Rl6,ef hs,ef hs,j,h⟩
  ·replace h:=A8 h hf13
   have hs:=Ae g hs
   have hs:=Ae hf13 hs
   refine rk 3 [0,1,5,6] hs ?_
   refine Aw _ (Dx w0 _ _ _ k) (hv hs) ?_
   refine nc hs ?_
   refine Hz ?_
   refine ne hs d ?_
   clear d
   obtain ⟨O,t,h⟩:=bind_some h
   obtain ⟨y,z,o⟩:=Bi t
   have p:=Bj (f:=AK) o
   have hs:=Ae p hs
   refine dg 13 1 1 [0,1,5,59] hs PH ?_
   refine BQ h hs ?_ ?_<;>intro hs h
   ·refine rg [4] hs ?_
    exact rt h hs a j
   refine sk [0,1,5] hs c ?_
   clear c
   obtain ⟨K,h⟩:=Au h
   refine rl [0,1,5] hs (fun e s=>Vl6 ml6 e s (Nat.lt_succ_self _)) ?_
   exact ⟨(b+1),([]),Rl6,ef hs,ef hs,j,h⟩
 ·clear h;rintro e st ⟨Xk3,Rk3,rfl,rfl,j,h⟩
  rw [Il] at h
  refine td H u q a j ?_
  refine rg [4] hs ?_
  exact rt h hs a j
def Dz (n:Nat) (g:Int→Option Bool) (b:Int):Option Bool :=
 if A6 (b+1) then
  g (b+1)
 else none
def H9 (n:Nat)  : Option Bool :=
 some (false)
def BG (n:Nat) (q:List ByteArray) (h:List Part) (y:List Part):Nat→Int→Option Bool
 | 0,_=>none
 | m+1,b =>
  if decide (b<(q.length:Int)) then
   (Cb q b).bind fun x14 =>
   (Do n x14).bind fun g =>
   if !(decide (g.2=0)) then
    Dz n (BG n q h y m) b 
   else
    (GW n h g.1).bind fun y21 =>
    if y21 then
     some (true)
    else
     (GW n g.1 h).bind fun y25 =>
     if y25 then
      if 0≤(h.length:Int)∧(h.length:Int)≤(g.1.length:Int)∧(g.1.length:Int)≤(g.1.length:Int) then
       (Lx n (g.1.drop h.length) y).bind fun z =>
       if z then
        some (true)
       else
        Dz n (BG n q h y m) b 
      else none
     else
      Dz n (BG n q h y m) b 
  else
   H9 n 
def I6 (n:Nat) (g:List ByteArray) (h:List Part) (b:List Part):Option Bool :=
 BG n g h b n 0
theorem TK (w0:World) (hE:Jl w0) (hM:Jh w0) (hP:Pow10 w0) (n:Nat) (B:Ao) (Rw:Av) (L:As) (a0:List ByteArray) (a1:List Part) (a2:List Part) (r:Bool) (h:I6 n a0 a1 a2=some r) :
  ACalls Tryz.prog w0 68 [.list (a0.map CB) .none,.list (a1.map AK) .none,.list (a2.map AK) .none] ⟨B,Rw,L⟩ fun x st=>x = .val (.bool r)∧st=⟨B,Rw,L⟩:=by
 rw [I6] at h
 refine hd [.tmp 6] Tryz.func68 Tryz.ntmps68 fun M0 W0 D u p b Q d hs=>?_
 simp only [AA]
 refine rg [0,1,2] hs ?_
 refine AB (fun e st=>Ck e st B Rw L [] [] [] (H9 n  = some r)) ?_ ?_
 ·intro K4 F
  refine rg [1,2,11,12,13] hs ?_
  apply Aq
  refine AC (fun m e st=>∃ (a:Int),Ck e st B Rw L [(1,true,.list (a1.map AK) .none),(2,true,.list (a2.map AK) .none),(11,true,.list (a0.map CB) .none),(12,true,Am (a0.length:Int)),(13,true,Am a)] [] [] (BG n a0 a1 a2 m a=some r)) n ⟨0,([]),Rw,ef hs,ef hs,d,h⟩ ?_
  rintro ml6 e st ⟨a,Xl6,Rl6,rfl,rfl,d,h⟩ Ul6 Vl6
  cases ml6 with
  | zero=>cases h
  | succ ml6 =>
  rw [BG] at h
  refine td D u p b d ?_
  refine rg [1,2,11,12,13,14] hs ?_
  apply An;intro K8 w
  refine BQ h hs ?_ ?_<;>intro hs h
  rotate_left
  ·refine sx [] hs F ?_
   exact ⟨([]),Rl6,ef hs,ef hs,d,h⟩
  refine sk [1,2,11,12,13] hs w ?_
  clear w
  refine AB (fun e st=>Ck e st B Rw L [(1,true,.list (a1.map AK) .none),(2,true,.list (a2.map AK) .none),(11,true,.list (a0.map CB) .none),(12,true,Am (a0.length:Int)),(13,true,Am a)] [] [] (Dz n (BG n a0 a1 a2 ml6) a  = some r)) ?_ ?_
  ·intro K12 i
   apply Aq
   obtain ⟨G,z,h⟩:=bind_some h
   obtain ⟨J,C,t⟩:=Bi z
   have q:=Bj (f:=CB) t
   have hs:=Ae q hs
   refine rg [1,2,8,11,12,13] hs ?_
   obtain ⟨g,y,h⟩:=bind_some h
   refine rc 2 [1,2,9,10,11,12,13] hs ?_;intro K15 k
   refine Aw _ (Gx w0 hE hM hP n _ _ _ G _ y) (hv hs) ?_
   refine ne hs k ?_
   clear k
   apply An;intro K17 o
   refine rg [1,2,9,11,12,13,23] hs ?_
   refine BQ h hs ?_ ?_<;>intro hs h
   ·refine sx [1,2,11,12,13] hs i ?_
    exact ⟨([]),Rl6,ef hs,ef hs,d,h⟩
   refine sk [1,2,9,11,12,13] hs o ?_
   clear o
   apply An;intro K20 c
   obtain ⟨E,j,h⟩:=bind_some h
   rcases Bool.eq_false_or_eq_true (E) with hf22 | hf22
   ·replace h:=A7 h hf22
    have hs:=Ae hf22 hs
    refine rk 4 [1,2,11,12,13,39] hs ?_
    refine Aw _ (G7 w0 n _ _ _ a1 g.1 _ j) (hv hs) ?_
    refine nc hs ?_
    refine Ep ?_
    refine nc hs ?_
    refine Ep ?_
    refine ne hs c ?_
    clear c
    refine A4 true ev (ef hs) (fun hb23=>?_) (fun hb23=>by cases hb23)
    refine rg [6] hs ?_
    exact rt h hs b d
   ·replace h:=A8 h hf22
    obtain ⟨H,l,h⟩:=bind_some h
    rcases Bool.eq_false_or_eq_true (H) with hf26 | hf26
    ·replace h:=A7 h hf26
     obtain ⟨N,h⟩:=Au h
     obtain ⟨O,v,h⟩:=bind_some h
     have hs:=Ae hf22 hs
     have hs:=Ae hf26 hs
     refine rk 4 [1,2,11,12,13,39] hs ?_
     refine Aw _ (G7 w0 n _ _ _ a1 g.1 _ j) (hv hs) ?_
     refine nc hs ?_
     refine Aw _ (G7 w0 n _ _ _ g.1 a1 _ l) (hv hs) ?_
     refine nc hs ?_
     refine Aw _ (Xr w0 n _ _ _ (g.1.drop a1.length) a2 _ v) (hv hs) ?_
     refine ne hs c ?_
     clear c
     refine BQ h hs ?_ ?_<;>intro hs h
     ·refine rg [6] hs ?_
      exact rt h hs b d
     refine sk [1,2,11,12,13] hs i ?_
     exact ⟨([]),Rl6,ef hs,ef hs,d,h⟩
    ·replace h:=A8 h hf26
     have hs:=Ae hf22 hs
     have hs:=Ae hf26 hs
     refine rk 4 [1,2,11,12,13,39] hs ?_
     refine Aw _ (G7 w0 n _ _ _ a1 g.1 _ j) (hv hs) ?_
     refine nc hs ?_
     refine Aw _ (G7 w0 n _ _ _ g.1 a1 _ l) (hv hs) ?_
     refine nc hs ?_
     refine Ep ?_
     refine ne hs c ?_
     clear c
     refine A4 false ev (ef hs) (fun hb31=>by cases hb31) (fun hb31=>?_)
     refine sk [1,2,11,12,13] hs i ?_
     exact ⟨([]),Rl6,ef hs,ef hs,d,h⟩
  ·clear h;rintro e st ⟨Xk11,Rk11,rfl,rfl,d,h⟩
   rw [Dz] at h
   refine td D u p b d ?_
   obtain ⟨K,h⟩:=Au h
   refine rl [1,2,11,12,13] hs (fun e s=>Vl6 ml6 e s (Nat.lt_succ_self _)) ?_
   exact ⟨(a+1),([]),Rk11,ef hs,ef hs,d,h⟩
 ·clear h;rintro e st ⟨Xk3,Rk3,rfl,rfl,d,h⟩
  rw [H9] at h
  refine td D u p b d ?_
  refine rg [6] hs ?_
  exact rt h hs b d
def FZ (n:Nat)  : Option Bool :=
 some (true)
def CE (n:Nat) (g:List Part):Nat→Int→Option Bool
 | 0,_=>none
 | m+1,b =>
  if decide (b<(g.length:Int)) then
   (Cb g b).bind fun h =>
   if !(decide (h.kind=1)) then
    some (false)
   else
    if A6 (b+1) then
     (CE n g m) (b+1)
    else none
  else
   FZ n 
def GM (n:Nat) (b:List Part):Option Bool :=
 CE n b n 0
theorem P7 (w0:World) (n:Nat) (B:Ao) (Rw:Av) (L:As) (a0:List Part) (r:Bool) (h:GM n a0=some r) :
  ACalls Tryz.prog w0 67 [.list (a0.map AK) .none] ⟨B,Rw,L⟩ fun x st=>x = .val (.bool r)∧st=⟨B,Rw,L⟩:=by
 rw [GM] at h
 refine hd [.tmp 2] Tryz.func67 Tryz.ntmps67 fun M0 W0 j f g c k d hs=>?_
 simp only [AA]
 refine rg [0] hs ?_
 refine AB (fun e st=>Ck e st B Rw L [] [] [] (FZ n  = some r)) ?_ ?_
 ·intro K4 i
  refine rg [0,3] hs ?_
  apply Aq
  refine AC (fun m e st=>∃ (b:Int),Ck e st B Rw L [(0,true,.list (a0.map AK) .none),(3,true,Am b)] [] [] (CE n a0 m b=some r)) n ⟨0,([]),Rw,ef hs,ef hs,d,h⟩ ?_
  rintro ml6 e st ⟨b,Xl6,Rl6,rfl,rfl,d,h⟩ Ul6 Vl6
  cases ml6 with
  | zero=>cases h
  | succ ml6 =>
  rw [CE] at h
  exact go (tg (a:=([0,3,7],([0,3],[0,3,15],([2],()),[0,3],[0,3],()),[],()))) h hs j f g c d trivial (q2 i (fun e s=>Vl6 ml6 e s (Nat.lt_succ_self _)))
 ·clear h;rintro e st ⟨Xk3,Rk3,rfl,rfl,d,h⟩
  rw [FZ] at h
  refine td j f g c d ?_
  refine rg [2] hs ?_
  exact rt h hs c d
def KJ (n:Nat) (b:List Part):Option ByteArray :=
 (Ib n b).bind fun g =>
 some (g.1)
theorem RD (w0:World) (hP:Pow10 w0) (n:Nat) (B:Ao) (Rw:Av) (L:As) (a0:List Part) (r:ByteArray) (h:KJ n a0=some r) :
  ACalls Tryz.prog w0 70 [.list (a0.map AK) .none] ⟨B,Rw,L⟩ fun x st=>x = .val (.string r)∧st=⟨B,Rw,L⟩:=by
 rw [KJ] at h
 refine hd [.tmp 2] Tryz.func70 Tryz.ntmps70 fun M0 W0 f c d b g e hs=>?_
 simp only [AA]
 exact go (tg (a:=([0],[3],[2],()))) h hs f c d b e (q1 (QC w0 hP n)) trivial
def Jr (n:Nat) (b:Ty):Option Int :=
 (HT n b).bind fun g =>
 if !(decide (g=0)) then
  some (g)
 else
  if !(decide (b.kind=9)) then
   some (11)
  else
   some (0)
theorem WS (w0:World) (hT:Lib.Utf8Tabs 2 3 w0) (n:Nat) (B:Ao) (Rw:Av) (L:As) (a0:Ty) (r:Int) (h:Jr n a0=some r) :
  ACalls Tryz.prog w0 65 [.agg (a0.cs)] ⟨B,Rw,L⟩ fun x st=>x=Am r∧st=⟨B,Rw,L⟩:=by
 rw [Jr] at h
 refine hd [.tmp 2] Tryz.func65 Tryz.ntmps65 fun M0 W0 f c d b g e hs=>?_
 simp only [AA]
 exact go (tg (a:=([1],[1,3],[1,3,7],([2],()),[1],[11],([2],()),[],[2],()))) h hs f c d b e (q1 (ON w0 hT n)) trivial
def FC (n:Nat) (g:(List ByteArray)→(List ByteArray)→Int→Option ((List ByteArray) × (List ByteArray) × Int)) (b:Int) (h:List ByteArray) (q:List ByteArray):Option ((List ByteArray) × (List ByteArray) × Int) :=
 if A6 (b+1) then
  g h q (b+1)
 else none
def IX (n:Nat)  (b:List ByteArray) (g:List ByteArray):Option ((List ByteArray) × (List ByteArray) × Int) :=
 some ((b,g,0))
def CZ (n:Nat) (a0:List (ByteArray × Ex)) (y:((List Part) × Int)) (q:(List (List Part))):Nat→(List ByteArray)→(List ByteArray)→Int→Option ((List ByteArray) × (List ByteArray) × Int)
 | 0,_,_,_=>none
 | m+1,h,g,b =>
  if decide (b<(q.length:Int)) then
   (Cb q b).bind fun z =>
   (Dn n a0).bind fun y39 =>
   (I6 n y39 y.1 z).bind fun y40 =>
   if y40 then
    (KJ n z).bind fun y42 =>
    if (g.length+1)*16≤140737488355328∧g.length+1≤4611686018427387904 then
     FC n (CZ n a0 y q m) b h (g++([y42]))
    else none
   else
    (KJ n z).bind fun y47 =>
    if (h.length+1)*16≤140737488355328∧h.length+1≤4611686018427387904 then
     FC n (CZ n a0 y q m) b (h++([y47])) g
    else none
  else
   IX n h g
def Jj (n:Nat) (z:List (ByteArray × Ex)) (y:Ty) (a2:ByteArray):Option ((List ByteArray) × (List ByteArray) × Int) :=
 (Db n z).bind fun y4 =>
 if !(decide (y4=0)) then
  some (([],[],y4))
 else
  (Jr n y).bind fun g =>
  if !(decide (g=0)) then
   some (([],[],g))
  else
   (Do n a2).bind fun b =>
   if !(decide (b.2=0)) then
    some (([],[],b.2))
   else
    (GM n b.1).bind fun q =>
    if !q then
     some (([],[],22))
    else
     (Gw n y).bind fun h =>
     CZ n z b h n ([]) ([]) 0
theorem W3 (w0:World) (hE:Jl w0) (hM:Jh w0) (hP:Pow10 w0) (hT:Lib.Utf8Tabs 2 3 w0) (n:Nat) (B:Ao) (Rw:Av) (L:As) (a0:List (ByteArray × Ex)) (a1:Ty) (a2:ByteArray) (r:(List ByteArray) × (List ByteArray) × Int) (h:Jj n a0 a1 a2=some r) :
  ACalls Tryz.prog w0 23 [.agg ([.list (a0.map A5) .none]),.agg (a1.cs),.val (.string a2)] ⟨B,Rw,L⟩ fun x st=>x = .tup [.list (r.1.map CB) .none,.list (r.2.1.map CB) .none,Am r.2.2]∧st=⟨B,Rw,L⟩:=by
 rw [Jj] at h
 refine hd [.tmp 6,.tmp 7,.tmp 8] Tryz.func23 Tryz.ntmps23 fun M0 W0 hN G E d hu z hs=>?_
 simp only [AA]
 refine rg [2,3,4,6,7] hs ?_
 apply An;intro K2 ag
 obtain ⟨y4,a3,h⟩:=bind_some h
 refine rc 2 [2,3,4,6,7,9] hs ?_;intro K3 ap
 refine Aw _ (Ho w0 hE hM hP n _ _ _ a0 _ a3) (hv hs) ?_
 refine ne hs ap ?_
 clear ap
 refine rg [2,3,4,6,7,9,17] hs ?_
 refine BQ h hs ?_ ?_<;>intro hs h
 ·refine rg [6,7,8] hs ?_
  exact rt h hs d z
 refine sk [2,3,4,6,7] hs ag ?_
 clear ag
 apply An;intro K8 ai
 obtain ⟨a6,ak,h⟩:=bind_some h
 refine rc 2 [2,3,4,6,7,10] hs ?_;intro K9 am
 refine Aw _ (WS w0 hT n _ _ _ a1 _ ak) (hv hs) ?_
 refine ne hs am ?_
 clear am
 refine rg [2,3,4,6,7,10,22] hs ?_
 refine BQ h hs ?_ ?_<;>intro hs h
 ·refine rg [6,7,8] hs ?_
  exact rt h hs d z
 refine sk [2,3,4,6,7] hs ai ?_
 clear ai
 obtain ⟨D,ad,h⟩:=bind_some h
 refine rc 2 [3,4,6,7,8,11] hs ?_;intro K14 N
 refine Aw _ (Gx w0 hE hM hP n _ _ _ a2 _ ad) (hv hs) ?_
 refine ne hs N ?_
 clear N
 apply An;intro K16 O
 apply Aq
 refine rg [3,4,6,7,8,11,29] hs ?_
 refine BQ h hs ?_ ?_<;>intro hs h
 ·refine rg [6,7,8] hs ?_
  exact rt h hs d z
 obtain ⟨a8,aq,h⟩:=bind_some h
 refine rc 2 [3,4,6,7,11,33] hs ?_;intro K20 Q
 refine Aw _ (P7 w0 n _ _ _ D.1 _ aq) (hv hs) ?_
 refine ne hs Q ?_
 clear Q
 refine BQ h hs ?_ ?_<;>intro hs h
 ·refine rg [6,7,8] hs ?_
  exact rt h hs d z
 refine sk [3,4,6,7,11] hs O ?_
 clear O
 refine AB (fun e st=>∃ (u:List ByteArray) (t:List ByteArray) (v:Ev.Own) (w:Ev.Own),Ck e st B Rw L [(6,true,.list (u.map CB) v),(7,true,.list (t.map CB) w)] [[.list (a0.map A5) .none],a1.cs] [(1,u.length,v),(1,t.length,w)] (IX n u t=some r)) ?_ ?_
 ·intro K26 ab
  obtain ⟨C,ah,h⟩:=bind_some h
  refine rc 2 [3,6,7,11,38,39,40] hs ?_;intro K27 V
  refine Aw _ (RH w0 hT n _ _ _ a1 _ ah) (hv hs) ?_
  refine ne hs V ?_
  clear V
  apply Aq
  refine AC (fun m e st=>∃ (c:List ByteArray) (i:List ByteArray) (b:Int) (l:Ev.Own) (g:Ev.Own),Ck e st B Rw L [(3,true,.box B.length 0),(6,true,.list (c.map CB) l),(7,true,.list (i.map CB) g),(11,true,.list (D.1.map AK) .none),(38,true,.list (C.map (Jc AK)) .none),(39,true,Am (C.length:Int)),(40,true,Am b)] [[.list (a0.map A5) .none],a1.cs] [(1,c.length,l),(1,i.length,g)] (CZ n a0 D C m c i b=some r)) n ⟨([]),([]),0,.full,.full,([]),Rw,ef hs,ef hs,Owns.of_eq (((z).full 1 0).full 1 0) D6,h⟩ ?_
  rintro ml29 e st ⟨c,i,b,l,g,Xl29,Rl29,rfl,rfl,z,h⟩ Ul29 Vl29
  cases ml29 with
  | zero=>cases h
  | succ ml29 =>
  rw [CZ] at h
  have hU:=z.unders
  simp only [List.mem_cons,List.not_mem_nil,or_false,forall_eq_or_imp,forall_eq] at hU
  obtain ⟨az,ax⟩:=hU
  refine td hN G E d z ?_
  refine rg [3,6,7,11,38,39,40,41] hs ?_
  apply An;intro K31 J
  refine BQ h hs ?_ ?_<;>intro hs h
  rotate_left
  ·refine sx [6,7] hs ab ?_
   exact ⟨c,i,l,g,([]),Rl29,ef hs,ef hs,Owns.of_eq (((z).swap (List.Perm.swap _ _ _)).swap (List.Perm.swap _ _ _)) D6,h⟩
  refine sk [3,6,7,11,38,39,40] hs J ?_
  clear J
  refine AB (fun e st=>∃ (k:List ByteArray) (j:List ByteArray) (p:Ev.Own) (o:Ev.Own),Ck e st B Rw L [(3,true,.box B.length 0),(6,true,.list (k.map CB) p),(7,true,.list (j.map CB) o),(11,true,.list (D.1.map AK) .none),(38,true,.list (C.map (Jc AK)) .none),(39,true,Am (C.length:Int)),(40,true,Am b)] [[.list (a0.map A5) .none],a1.cs] [(1,k.length,p),(1,j.length,o)] (FC n (CZ n a0 D C ml29) b k j=some r)) ?_ ?_
  ·intro K35 U
   apply Aq
   obtain ⟨ao,af,h⟩:=bind_some h
   obtain ⟨ay,au,Y⟩:=Bi af
   have Z:=Bj (f:=(Jc AK)) Y
   have hs:=Ae Z hs
   refine rg [3,6,7,11,13,38,39,40] hs ?_
   obtain ⟨aw,aa,h⟩:=bind_some h
   obtain ⟨a7,ar,h⟩:=bind_some h
   refine rc 3 [3,6,7,11,13,38,39,40,48] hs ?_;intro K38 K
   refine Aw _ (KH w0 hE hM hP hT n _ _ _ a0 _ aa) (hv hs) ?_
   refine nc hs ?_
   refine Aw _ (TK w0 hE hM hP n _ _ _ aw D.1 ao _ ar) (hv hs) ?_
   refine ne hs K ?_
   clear K
   refine BQ h hs ?_ ?_<;>intro hs h
   ·exact go (tg (a:=([3,6,7,11,38,39,40],()))) h hs hN G E d z (q2 (ae OL Me) (RD w0 hP n)) (q1 U)
   obtain ⟨a4,aj,h⟩:=bind_some h
   obtain ⟨H,h⟩:=Au h
   obtain ⟨av,F,z,q⟩:=z.append (P:=Tryz.prog) OL (by rw [Me];rfl) (by decide) 1 H.1 H.2
   replace q:=fun (ys:List AV) B L o2=>q (c.map CB) ys B L o2 D6
   replace q:=fun (y:AV) B L o2=>q [y] B L o2 D6 ev
   try simp only [List.mem_singleton,List.mem_cons,List.not_mem_nil,or_false,forall_eq_or_imp,forall_eq,List.map_append,List.map_cons,List.map_nil,GE,GA,Gj,EQ,EO,F7,Dp,Ek,Ge,CP,CJ,EF,Ez,Et,Gi,Ew,F5] at q
   have hs:=Ae q hs
   refine rk 2 [3,6,7,11,38,39,40] hs ?_
   refine Aw _ (RD w0 hP n _ _ _ ao _ aj) (hv hs) ?_
   refine ne hs U ?_
   exact ⟨(c++([a4])),i,av,g,([]),F,ef hs,ef hs,Owns.of_eq (((z).swap (List.Perm.swap _ _ _)).swap (List.Perm.swap _ _ _)) D6,h⟩
  ·clear h;rintro e st ⟨k,j,p,o,Xk34,Rk34,rfl,rfl,z,h⟩
   rw [FC] at h
   have hU:=z.unders
   simp only [List.mem_cons,List.not_mem_nil,or_false,forall_eq_or_imp,forall_eq] at hU
   obtain ⟨az,ax⟩:=hU
   refine td hN G E d z ?_
   obtain ⟨a5,h⟩:=Au h
   refine rl [3,6,7,11,38,39,40] hs (fun e s=>Vl29 ml29 e s (Nat.lt_succ_self _)) ?_
   exact ⟨k,j,(b+1),p,o,([]),Rk34,ef hs,ef hs,Owns.of_eq (((z).swap (List.Perm.swap _ _ _)).swap (List.Perm.swap _ _ _)) D6,h⟩
 ·clear h;rintro e st ⟨u,t,v,w,Xk25,Rk25,rfl,rfl,z,h⟩
  rw [IX] at h
  exact go (tg (a:=([6,7,8],()))) h hs hN G E d z trivial trivial
def KZ (n:Nat)  : Option Bool :=
 some (true)
def Ff (n:Nat) (q:List ByteArray) (y:List ByteArray):Nat→Int→Option Bool
 | 0,_=>none
 | m+1,b =>
  if decide (b<(q.length:Int)) then
   (Cb q b).bind fun h =>
   (Cb y b).bind fun g =>
   if !(Gn h g) then
    some (false)
   else
    if A6 (b+1) then
     (Ff n q y m) (b+1)
    else none
  else
   KZ n 
def IR (n:Nat) (b:List ByteArray) (g:List ByteArray):Option Bool :=
 if !(decide ((b.length:Int)=(g.length:Int))) then
  some (false)
 else
  Ff n b g n 0
theorem RF (w0:World) (n:Nat) (B:Ao) (Rw:Av) (L:As) (a0:List ByteArray) (a1:List ByteArray) (r:Bool) (h:IR n a0 a1=some r) :
  ACalls Tryz.prog w0 25 [.list (a0.map CB) .none,.list (a1.map CB) .none] ⟨B,Rw,L⟩ fun x st=>x = .val (.bool r)∧st=⟨B,Rw,L⟩:=by
 rw [IR] at h
 refine hd [.tmp 4] Tryz.func25 Tryz.ntmps25 fun M0 W0 k f g c l d hs=>?_
 simp only [AA]
 refine rg [0,1] hs ?_
 apply An;intro K2 i
 refine rg [0,1,10] hs ?_
 refine BQ h hs ?_ ?_<;>intro hs h
 ·refine rg [4] hs ?_
  exact rt h hs c d
 refine sk [0,1] hs i ?_
 clear i
 refine AB (fun e st=>Ck e st B Rw L [] [] [] (KZ n  = some r)) ?_ ?_
 ·intro K8 j
  refine rg [0,1,5] hs ?_
  apply Aq
  refine AC (fun m e st=>∃ (b:Int),Ck e st B Rw L [(0,true,.list (a0.map CB) .none),(1,true,.list (a1.map CB) .none),(5,true,Am b)] [] [] (Ff n a0 a1 m b=some r)) n ⟨0,([]),Rw,ef hs,ef hs,d,h⟩ ?_
  rintro ml10 e st ⟨b,Xl10,Rl10,rfl,rfl,d,h⟩ Ul10 Vl10
  cases ml10 with
  | zero=>cases h
  | succ ml10 =>
  rw [Ff] at h
  exact go (tg (a:=([0,1,5,14],([0,1,5],[9,0,1,5,25],([4],()),[0,1,5],[0,1,5],()),[],()))) h hs k f g c d trivial (q2 j (fun e s=>Vl10 ml10 e s (Nat.lt_succ_self _)))
 ·clear h;rintro e st ⟨Xk7,Rk7,rfl,rfl,d,h⟩
  rw [KZ] at h
  refine td k f g c d ?_
  refine rg [4] hs ?_
  exact rt h hs c d
end Go.Proofs.YtmcnjijeocmkgaaGreatDoor
